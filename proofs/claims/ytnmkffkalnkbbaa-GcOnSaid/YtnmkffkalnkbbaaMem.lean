/-
  The kit's second text: a ghost heap of blocks that no longer change, the blocks that a call owns, and what the operations on memory do to both.
  It speaks of any program. No condition.
-/
import Derived.Test.YtnmkffkalnkbbaaKit
namespace Go.Proofs.Ytnmkffkalnkbbaa.K
open Go Go.RowKit

abbrev GH := Nat → Option Obj
def gcell (G : GH) (a : Addr) : Option Value := match G a.block with
  | some (.cells c _ _) => if a.spot.isSome then none else c[a.off]?
  | _ => none
def Holds (G : GH) (w : World) : Prop := ∀ b o, G b = some o → w.heap[b]? = some o
def Le (G G' : GH) : Prop := ∀ b o, G b = some o → G' b = some o
def fullG (w : World) : GH := fun b => w.heap[b]?
def noG : GH := fun _ => none
/-- Both; where both tell of a block, the first one. -/
def joinG (G G' : GH) : GH := fun b => match G b with | some o => some o | none => G' b

section
variable {G G' G'' : GH} {w w' : World} {a : Addr} {v : Value}
theorem Le.refl (G : GH) : Le G G := fun _ _ h => h
theorem Le.trans (h : Le G G') (k : Le G' G'') : Le G G'' := fun b o hb => k b o (h b o hb)
theorem Holds.full (w : World) : Holds (fullG w) w := fun _ _ h => h
theorem Holds.le_full (h : Holds G w) : Le G (fullG w) := h
theorem Le.cell (h : Le G G') (hc : gcell G a = some v) : gcell G' a = some v := by
  unfold gcell at *
  cases hb : G a.block with
  | none => simp [hb] at hc
  | some o => rw [h _ _ hb]; simpa [hb] using hc
theorem gcell_full (w : World) (a : Addr) : gcell (fullG w) a = w.cell? a := rfl
theorem Holds.cell (h : Holds G w) (hc : gcell G a = some v) : w.cell? a = some v := by
  rw [← gcell_full]
  exact Le.cell h hc
theorem Holds.lt (h : Holds G w) {b : Nat} {o : Obj} (hb : G b = some o) : b < w.heap.size := by
  have := h b o hb
  rcases Nat.lt_or_ge b w.heap.size with hh | hh
  · exact hh
  · rw [Array.getElem?_eq_none hh] at this; cases this
theorem Holds.below (h : Holds G w) (hb : Below w.heap.size w w') : Holds G w' := fun b o ho => by
  rw [hb.block b (h.lt ho)]
  exact h b o ho
theorem Holds.mono (h : Holds G' w) (hl : Le G G') : Holds G w := fun b o hb => h b o (hl b o hb)
theorem joinG_left (G G' : GH) : Le G (joinG G G') := fun b o h => by simp [joinG, h]
theorem joinG_right (h : Holds G w) (h' : Holds G' w) : Le G' (joinG G G') := fun b o hb => by
  unfold joinG
  cases hg : G b with
  | none => exact hb
  | some o' =>
    have h1 := h b o' hg
    have h2 := h' b o hb
    rw [h1] at h2
    exact h2
theorem Holds.join (h : Holds G w) (h' : Holds G' w) : Holds (joinG G G') w := fun b o hb => by
  unfold joinG at hb
  cases hg : G b with
  | none => simp [hg] at hb; exact h' b o hb
  | some o' => simp [hg] at hb; subst hb; exact h b _ hg
end

/-! ### The address of an element -/

def elA (oa : Option Addr) (k : Nat) : Addr := (oa.getD ⟨0, 0, none⟩).add k
theorem elA_some (a : Addr) (k : Nat) : elA (some a) k = a.add k := rfl
theorem add_add' (a : Addr) (m n : Nat) : (a.add m).add n = a.add (m + n) := by
  unfold Addr.add
  by_cases h1 : m = 0
  · simp [h1]
  · by_cases h2 : n = 0
    · simp [h1, h2]
    · have : ¬ (m + n = 0) := by omega
      simp [h1, h2, Nat.add_assoc]
theorem elA_add (oa : Option Addr) (m n : Nat) : (elA oa m).add n = elA oa (m + n) := add_add' _ _ _

/-! ### What the call owns -/

inductive Ent where
  /-- a whole block -/
  | blk (b : Nat) (T : TypeId) (cs : List Value)
  /-- a slice of n elements, sz cells each, its cells; it may have room for more -/
  | row (oa : Option Addr) (n c : Nat) (T : TypeId) (sz : Nat) (xs : List Value)
  /-- a whole object of another kind -/
  | obj (b : Nat) (o : Obj)

def Ent.fp : Ent → Option Nat
  | .blk b _ _ => some b
  | .row oa _ _ _ _ _ => oa.map (·.block)
  | .obj b _ => some b

/-- Cells xs lie in block g from off on, in room for c elements. -/
def RowIn (w : World) (oa : Option Addr) (n c : Nat) (T : TypeId) (sz : Nat) (xs : List Value) : Prop :=
  xs.length = n * sz ∧ n ≤ c ∧ c ≤ maxLen ∧ ((oa = none ∧ c = 0) ∨
    ∃ g off cur, oa = some ⟨g, off, none⟩ ∧ w.heap[g]? = some (.cells cur T (0, 0)) ∧ off + c * sz ≤ cur.size ∧ ∀ (i : Nat) (u : Value), xs[i]? = some u → cur[off + i]? = some u)

def Ent.sat (w : World) : Ent → Prop
  | .blk b T cs => w.heap[b]? = some (.cells cs.toArray T (0, 0))
  | .row oa n c T sz xs => RowIn w oa n c T sz xs
  | .obj b o => w.heap[b]? = some o

theorem Ent.lt {w : World} {x : Ent} (h : x.sat w) {b : Nat} (hb : x.fp = some b) : b < w.heap.size := by
  have key : ∀ {o : Obj}, w.heap[b]? = some o → b < w.heap.size := fun ho => by
    rcases Nat.lt_or_ge b w.heap.size with hh | hh
    · exact hh
    · rw [Array.getElem?_eq_none hh] at ho; cases ho
  cases x with
  | blk b' T cs =>
    have : b' = b := by simpa [Ent.fp] using hb
    subst this
    exact key h
  | obj b' o =>
    have : b' = b := by simpa [Ent.fp] using hb
    subst this
    exact key h
  | row oa n c T sz xs =>
    obtain ⟨_, _, _, h⟩ := h
    rcases h with ⟨rfl, _⟩ | ⟨g, off, cur, rfl, hg, _⟩
    · cases hb
    · have : g = b := by simpa [Ent.fp] using hb
      subst this
      exact key hg

theorem Ent.kept {w w' : World} {x : Ent} (h : x.sat w) (hk : ∀ b, x.fp = some b → w'.heap[b]? = w.heap[b]?) : x.sat w' := by
  cases x with
  | blk b T cs => exact (hk b rfl).trans h
  | obj b o => exact (hk b rfl).trans h
  | row oa n c T sz xs =>
    obtain ⟨h1, h2, h3, h⟩ := h
    refine ⟨h1, h2, h3, ?_⟩
    rcases h with h | ⟨g, off, cur, rfl, hg, hrest⟩
    · exact .inl h
    · exact .inr ⟨g, off, cur, rfl, (hk g rfl).trans hg, hrest⟩

structure SS (G0 : GH) (w0 : World) (G : GH) (M : List Ent) (w : World) : Prop where
  below : Below w0.heap.size w0 w
  le : Le G0 G
  old : ∀ b, b < w0.heap.size → G b = G0 b
  hold : Holds G w
  own : ∀ x ∈ M, x.sat w
  sep : ∀ (i j : Nat) (x y : Ent) (b : Nat), M[i]? = some x → M[j]? = some y → x.fp = some b → y.fp = some b → i = j
  new : ∀ x ∈ M, ∀ b, x.fp = some b → G b = none ∧ w0.heap.size ≤ b

section
variable {G0 G : GH} {w0 w w' : World} {M : List Ent}

theorem SS.init (h : Holds G w) : SS G w G [] w where
  below := Below.refl _ _
  le := Le.refl _
  old _ _ := rfl
  hold := h
  own x hx := by cases hx
  sep i j x y b hi := by simp at hi
  new x hx := by cases hx

/-- Every block that the call knows stays as it is. -/
theorem SS.kept (h : SS G0 w0 G M w) (hb : Below w.heap.size w w') : SS G0 w0 G M w' where
  below := h.below.trans (hb.mono h.below.size)
  le := h.le
  old := h.old
  hold := h.hold.below hb
  own x hx := Ent.kept (h.own x hx) fun b hfp => hb.block b (Ent.lt (h.own x hx) hfp)
  sep := h.sep
  new := h.new

theorem SS.drew (h : SS G0 w0 G M w) : SS G0 w0 G M w.drew := h.kept (Below.refl _ _).drew

theorem below_alloc (w : World) (o : Obj) : Below w.heap.size w (w.alloc o) := (Below.refl _ _).alloc (Nat.le_refl _) o

theorem SS.push (h : SS G0 w0 G M w) {x : Ent} (hx : x.sat w) (hf : ∀ b, x.fp = some b → G b = none ∧ w0.heap.size ≤ b ∧ ∀ y ∈ M, y.fp ≠ some b) : SS G0 w0 G (x :: M) w where
  below := h.below
  le := h.le
  old := h.old
  hold := h.hold
  own y hy := by
    rcases List.mem_cons.1 hy with rfl | hy
    · exact hx
    · exact h.own y hy
  sep i j y z b hi hj hy hz := by
    cases i with
    | zero =>
      obtain rfl : x = y := by simpa using hi
      cases j with
      | zero => rfl
      | succ j => exact absurd hz ((hf b hy).2.2 z (List.mem_of_getElem? (by simpa using hj)))
    | succ i =>
      cases j with
      | zero =>
        obtain rfl : x = z := by simpa using hj
        exact absurd hy ((hf b hz).2.2 y (List.mem_of_getElem? (by simpa using hi)))
      | succ j => rw [h.sep i j y z b (by simpa using hi) (by simpa using hj) hy hz]
  new y hy b hb := by
    rcases List.mem_cons.1 hy with rfl | hy
    · exact ⟨(hf b hb).1, (hf b hb).2.1⟩
    · exact h.new y hy b hb

/-- A new entry whose block is a new one. -/
theorem SS.fresh (h : SS G0 w0 G M w) (hb : Below w.heap.size w w') {x : Ent} (hx : x.sat w') (hf : ∀ b, x.fp = some b → w.heap.size ≤ b) : SS G0 w0 G (x :: M) w' := by
  refine (h.kept hb).push hx fun b hfp => ⟨?_, Nat.le_trans h.below.size (hf b hfp), fun y hy hyb => ?_⟩
  · cases hg : G b with
    | none => rfl
    | some o => have := h.hold.lt hg; have := hf b hfp; omega
  · have := Ent.lt (h.own y hy) hyb
    have := hf b hfp
    omega

theorem SS.alloc (h : SS G0 w0 G M w) (T : TypeId) (cs : List Value) : SS G0 w0 G (.blk w.heap.size T cs :: M) (w.alloc (.cells cs.toArray T)) :=
  h.fresh (below_alloc w _) (x := .blk w.heap.size T cs) (heap_alloc_new w _) (fun b hb => by simp [Ent.fp] at hb; omega)

theorem SS.allocRow (h : SS G0 w0 G M w) {n c sz : Nat} {cs : Array Value} {xs : List Value} (T : TypeId) (hx : xs.length = n * sz) (hn : n ≤ c) (hc : c ≤ maxLen) (hs : c * sz ≤ cs.size) (hi : ∀ (i : Nat) (u : Value), xs[i]? = some u → cs[i]? = some u) :
    SS G0 w0 G (.row (some ⟨w.heap.size, 0, none⟩) n c T sz xs :: M) (w.alloc (.cells cs T)) :=
  h.fresh (below_alloc w _) (x := .row (some ⟨w.heap.size, 0, none⟩) n c T sz xs)
    ⟨hx, hn, hc, .inr ⟨w.heap.size, 0, cs, rfl, heap_alloc_new w _, by omega, fun i u hu => by rw [Nat.zero_add]; exact hi i u hu⟩⟩
    (fun b hb => by simp [Ent.fp] at hb; omega)

theorem SS.drop (pre : List Ent) {x : Ent} (h : SS G0 w0 G (pre ++ x :: M) w) : SS G0 w0 G (pre ++ M) w where
  below := h.below
  le := h.le
  old := h.old
  hold := h.hold
  own y hy := h.own y (by rcases List.mem_append.1 hy with hy | hy <;> simp [hy])
  sep i j y z b hi hj hy hz := by
    have key : ∀ (i : Nat) (y : Ent), (pre ++ M)[i]? = some y → (pre ++ x :: M)[if i < pre.length then i else i + 1]? = some y := fun i y hi => by
      by_cases hlt : i < pre.length
      · rw [if_pos hlt]; rw [List.getElem?_append_left hlt] at hi ⊢; exact hi
      · rw [if_neg hlt]
        rw [List.getElem?_append_right (by omega)] at hi ⊢
        rw [show i + 1 - pre.length = (i - pre.length) + 1 from by omega, List.getElem?_cons_succ]
        exact hi
    have := h.sep _ _ y z b (key i y hi) (key j z hj) hy hz
    split at this <;> split at this <;> omega
  new y hy := h.new y (by rcases List.mem_append.1 hy with hy | hy <;> simp [hy])

/-- An entry takes another form: the same block, or none. -/
theorem SS.turn (h : SS G0 w0 G M w) {i : Nat} {x y : Ent} (hi : M[i]? = some x) (hb : ∀ k, k < w.heap.size → x.fp ≠ some k → w'.heap[k]? = w.heap[k]?) (hsz : w.heap.size ≤ w'.heap.size) (ho : w'.os = w.os) (ht : w'.tape = w.tape) (hou : w'.output = w.output)
    (hy : y.sat w') (hf : ∀ b, y.fp = some b → x.fp = some b ∨ w.heap.size ≤ b) : SS G0 w0 G (M.set i y) w' := by
  have hil : i < M.length := (List.getElem?_eq_some_iff.1 hi).1
  have hx : x ∈ M := List.mem_of_getElem? hi
  have hnew : ∀ b, y.fp = some b → G b = none ∧ w0.heap.size ≤ b := fun b hyb => by
    rcases hf b hyb with hh | hh
    · exact h.new x hx b hh
    · refine ⟨?_, Nat.le_trans h.below.size hh⟩
      cases hg : G b with
      | none => rfl
      | some o => have := h.hold.lt hg; omega
  have hother : ∀ j z b, j ≠ i → M[j]? = some z → z.fp = some b → x.fp ≠ some b ∧ b < w.heap.size := fun j z b hji hj hz =>
    ⟨fun hxb => hji (h.sep j i z x b hj hi hz hxb), Ent.lt (h.own z (List.mem_of_getElem? hj)) hz⟩
  have hold' : Holds G w' := fun b o hbo => by
    rw [hb b (h.hold.lt hbo) (fun hxb => by have := (h.new x hx b hxb).1; rw [hbo] at this; cases this)]
    exact h.hold b o hbo
  refine ⟨?_, h.le, h.old, hold', ?_, ?_, ?_⟩
  · refine h.below.trans ⟨ho, ht, hou, hsz, fun k hk => hb k (Nat.lt_of_lt_of_le hk h.below.size) fun hxk => ?_⟩
    have := (h.new x hx k hxk).2
    omega
  · intro z hz
    obtain ⟨j, hj⟩ := List.getElem?_of_mem hz
    by_cases hji : j = i
    · subst hji
      rw [List.getElem?_set_self hil] at hj
      cases hj
      exact hy
    · rw [List.getElem?_set_ne (Ne.symm hji)] at hj
      exact Ent.kept (h.own z (List.mem_of_getElem? hj)) fun b hzb => hb b (hother j z b hji hj hzb).2 (hother j z b hji hj hzb).1
  · intro j k z u b hj hk hz hu
    by_cases hji : j = i
    · subst hji
      rw [List.getElem?_set_self hil] at hj
      cases hj
      by_cases hki : k = j
      · exact hki.symm
      · rw [List.getElem?_set_ne (Ne.symm hki)] at hk
        have h2 := hother k u b hki hk hu
        rcases hf b hz with hh | hh
        · exact absurd hh h2.1
        · omega
    · rw [List.getElem?_set_ne (Ne.symm hji)] at hj
      by_cases hki : k = i
      · subst hki
        rw [List.getElem?_set_self hil] at hk
        cases hk
        have h2 := hother j z b hji hj hz
        rcases hf b hu with hh | hh
        · exact absurd hh h2.1
        · omega
      · rw [List.getElem?_set_ne (Ne.symm hki)] at hk
        exact h.sep j k z u b hj hk hz hu
  · intro z hz b hzb
    obtain ⟨j, hj⟩ := List.getElem?_of_mem hz
    by_cases hji : j = i
    · subst hji
      rw [List.getElem?_set_self hil] at hj
      cases hj
      exact hnew b hzb
    · rw [List.getElem?_set_ne (Ne.symm hji)] at hj
      exact h.new z (List.mem_of_getElem? hj) b hzb

/-! ### Cells -/

theorem SS.gcell (h : SS G0 w0 G M w) {a : Addr} {v : Value} (hc : gcell G a = some v) : w.cell? a = some v := h.hold.cell hc
theorem SS.gcell0 (h : SS G0 w0 G M w) {a : Addr} {v : Value} (hc : K.gcell G0 a = some v) : w.cell? a = some v := h.hold.cell (h.le.cell hc)

theorem SS.bcell (h : SS G0 w0 G M w) {i b k : Nat} {T : TypeId} {cs : List Value} (hi : M[i]? = some (.blk b T cs)) : w.cell? ((⟨b, 0, none⟩ : Addr).add k) = cs[k]? := by
  have := h.own _ (List.mem_of_getElem? hi)
  rw [show ((⟨b, 0, none⟩ : Addr).add k) = ⟨b, k, none⟩ from by rw [Addr.add_lit]; simp]
  rw [cell_of_row w b k cs.toArray T (0, 0) this]
  simp
theorem SS.bfrozen (h : SS G0 w0 G M w) {i b k : Nat} {T : TypeId} {cs : List Value} (hi : M[i]? = some (.blk b T cs)) : w.frozen? ((⟨b, 0, none⟩ : Addr).add k) = false := by
  have := h.own _ (List.mem_of_getElem? hi)
  rw [show ((⟨b, 0, none⟩ : Addr).add k) = ⟨b, k, none⟩ from by rw [Addr.add_lit]; simp]
  exact frozen_of_row w b k cs.toArray T this
theorem add_zero'' (a : Addr) : a.add 0 = a := by simp [Addr.add]

theorem RowIn.cell {oa : Option Addr} {n c : Nat} {T : TypeId} {sz : Nat} {xs : List Value} (h : RowIn w oa n c T sz xs) {k : Nat} {u : Value} (hk : xs[k]? = some u) : oa.isSome = true ∧ w.cell? (elA oa k) = some u := by
  obtain ⟨h1, h2, _, h⟩ := h
  rcases h with ⟨rfl, rfl⟩ | ⟨g, off, cur, rfl, hg, hsz, hc⟩
  · have : xs = [] := List.eq_nil_of_length_eq_zero (by rw [h1, Nat.le_zero.1 h2]; simp)
    subst this
    simp at hk
  · refine ⟨rfl, ?_⟩
    rw [elA_some, Addr.add_lit, cell_of_row w g _ cur T (0, 0) hg]
    exact hc k u hk
theorem SS.rcell (h : SS G0 w0 G M w) {i : Nat} {oa : Option Addr} {n c : Nat} {T : TypeId} {sz : Nat} {xs : List Value} (hi : M[i]? = some (.row oa n c T sz xs)) {k : Nat} {u : Value} (hk : xs[k]? = some u) : w.cell? (elA oa k) = some u :=
  (RowIn.cell (h.own _ (List.mem_of_getElem? hi)) hk).2

/-! ### Stores -/

theorem heap_setCell (w : World) (b k : Nat) (v : Value) (cur : Array Value) (T : TypeId) (hg : w.heap[b]? = some (.cells cur T (0, 0))) : (w.setCell ⟨b, k, none⟩ v).heap[b]? = some (.cells (cur.setIfInBounds k v) T (0, 0)) := by
  simp [World.setCell, Array.getElem?_modify, hg]
theorem SS.bstore (h : SS G0 w0 G M w) {i b k : Nat} {T : TypeId} {cs : List Value} (v : Value) (hi : M[i]? = some (.blk b T cs)) : SS G0 w0 G (M.set i (.blk b T (cs.set k v))) (w.setCell ((⟨b, 0, none⟩ : Addr).add k) v) := by
  rw [show ((⟨b, 0, none⟩ : Addr).add k) = ⟨b, k, none⟩ from by rw [Addr.add_lit]; simp]
  have hb := h.own _ (List.mem_of_getElem? hi)
  refine h.turn hi (fun j hj hne => heap_setCell_other w _ j v (fun hh => hne (by simp [Ent.fp, hh]))) (by simp) rfl rfl rfl ?_ (fun b' hb' => .inl hb')
  show _ = _
  rw [heap_setCell w b k v _ T hb]
  simp
theorem SS.rstore (h : SS G0 w0 G M w) {i : Nat} {oa : Option Addr} {n c : Nat} {T : TypeId} {sz : Nat} {xs : List Value} {k : Nat} (v : Value) (hi : M[i]? = some (.row oa n c T sz xs)) (hk : k < xs.length) :
    (∃ u, w.cell? (elA oa k) = some u) ∧ w.frozen? (elA oa k) = false ∧ SS G0 w0 G (M.set i (.row oa n c T sz (xs.set k v))) (w.setCell (elA oa k) v) := by
  have hr : RowIn w oa n c T sz xs := h.own _ (List.mem_of_getElem? hi)
  refine ⟨⟨_, (RowIn.cell hr (List.getElem?_eq_getElem hk)).2⟩, ?_, ?_⟩
  all_goals
    obtain ⟨h1, h2, h3, hr⟩ := hr
    rcases hr with ⟨rfl, rfl⟩ | ⟨g, off, cur, rfl, hg, hsz, hc⟩
    · have : xs = [] := List.eq_nil_of_length_eq_zero (by rw [h1, Nat.le_zero.1 h2]; simp)
      subst this
      simp at hk
  · rw [elA_some, Addr.add_lit]
    exact frozen_of_row w g _ cur T hg
  · rw [elA_some, Addr.add_lit]
    refine h.turn hi (fun j hj hne => heap_setCell_other w _ j v (fun hh => hne (by simp [Ent.fp, hh]))) (by simp) rfl rfl rfl ?_ (fun b' hb' => .inl hb')
    refine ⟨by simpa using h1, h2, h3, .inr ⟨g, off, _, rfl, heap_setCell w g (off + k) v cur T hg, by simpa using hsz, fun j u hj => ?_⟩⟩
    by_cases hjk : k = j
    · subst hjk
      rw [List.getElem?_set_self hk] at hj
      cases hj
      have : off + k < cur.size := by
        have h4 : xs.length ≤ c * sz := by rw [h1]; exact Nat.mul_le_mul_right _ h2
        omega
      simp [this]
    · rw [List.getElem?_set_ne hjk] at hj
      rw [Array.getElem?_setIfInBounds_ne (by omega)]
      exact hc j u hj
end
end Go.Proofs.Ytnmkffkalnkbbaa.K
