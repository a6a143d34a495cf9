/-
  Plain laws: what an atom is hangs on the rules that it leads to alone. No program of Go stands here.
  No condition but the premises of each theorem.
-/
import Derived.Test.YtegjmfcfjedfjaaPlt
namespace Go.Proofs.Ytegjmfcfjedfjaa.Pl

/-! ### The order of atoms is one: each atom stands once -/
theorem bl_trans : ∀ {a b c : List UInt8}, Op.bytesLess a b = true → Op.bytesLess b c = true → Op.bytesLess a c = true
  | _, [], _, h, _ => by simp [Op.bytesLess] at h
  | _, _ :: _, [], _, h => by simp [Op.bytesLess] at h
  | [], _ :: _, _ :: _, _, _ => rfl
  | x :: a, y :: b, z :: c, h, h' => by
    simp only [Op.bytesLess, Bool.or_eq_true, Bool.and_eq_true, decide_eq_true_eq, beq_iff_eq] at *
    rcases h with h | ⟨rfl, h⟩
    · rcases h' with h' | ⟨rfl, h'⟩
      · exact .inl (UInt8.lt_trans h h')
      · exact .inl h
    · rcases h' with h' | ⟨rfl, h'⟩
      · exact .inl h'
      · exact .inr ⟨rfl, bl_trans h h'⟩
theorem bl_irrefl : ∀ a : List UInt8, Op.bytesLess a a = false
  | [] => rfl
  | x :: a => by simp [Op.bytesLess, bl_irrefl a]
theorem sameC_iff {x y : Cell} : sameC x y = true ↔ x.kind = y.kind ∧ x.name.toList = y.name.toList ∧ x.n = y.n := by
  simp [sameC, and_assoc]
theorem ltC_trans {x y z : Cell} (h : ltC x y = true) (h' : ltC y z = true) : ltC x z = true := by
  simp only [ltC, Bool.or_eq_true, Bool.and_eq_true, decide_eq_true_eq] at *
  rcases h with h | ⟨h1, h | ⟨h2, h3⟩⟩ <;> rcases h' with h' | ⟨h1', h' | ⟨h2', h3'⟩⟩
  all_goals first | exact .inl (by omega) | exact .inr ⟨by omega, .inl (by omega)⟩ | exact .inr ⟨by omega, .inr ⟨by omega, bl_trans h3 h3'⟩⟩
theorem ltC_ne {x y : Cell} (h : ltC x y = true) : sameC x y = false := by
  rw [Bool.eq_false_iff]
  intro hs
  obtain ⟨h1, h2, h3⟩ := sameC_iff.1 hs
  simp [ltC, h1, h2, h3, bl_irrefl] at h
theorem sameC_l {x y z : Cell} (h : sameC x y = true) : sameC x z = sameC y z := by
  obtain ⟨h1, h2, h3⟩ := sameC_iff.1 h
  simp [sameC, h1, h2, h3]
theorem sameC_r {x y z : Cell} (h : sameC y z = true) : sameC x y = sameC x z := by
  obtain ⟨h1, h2, h3⟩ := sameC_iff.1 h
  simp [sameC, h1, h2, h3]
theorem ltC_l {x y z : Cell} (h : sameC x y = true) : ltC x z = ltC y z := by
  obtain ⟨h1, h2, h3⟩ := sameC_iff.1 h
  simp [ltC, h1, h2, h3]
theorem ltC_r {x y z : Cell} (h : sameC y z = true) : ltC x y = ltC x z := by
  obtain ⟨h1, h2, h3⟩ := sameC_iff.1 h
  simp [ltC, h1, h2, h3]
theorem cmpT_lt {x y : Cell} {a b : List Cell} : cmpT (x :: a) (y :: b) < 0 ↔ (sameC x y = true ∧ cmpT a b < 0) ∨ (sameC x y = false ∧ ltC x y = true) := by
  rw [cmpT]
  by_cases h : sameC x y = true <;> by_cases h2 : ltC x y = true <;> simp [h, h2]
theorem cmpT_trans : ∀ {a b c : List Cell}, cmpT a b < 0 → cmpT b c < 0 → cmpT a c < 0
  | [], _, _, h, _ => by simp [cmpT] at h
  | _ :: _, [], _, h, _ => by simp [cmpT] at h
  | _ :: _, _ :: _, [], _, h => by simp [cmpT] at h
  | x :: a, y :: b, z :: c, h, h' => by
    rw [cmpT_lt] at *
    rcases h with ⟨h1, h2⟩ | ⟨h1, h2⟩ <;> rcases h' with ⟨h3, h4⟩ | ⟨h3, h4⟩
    · exact .inl ⟨by rw [sameC_l h1]; exact h3, cmpT_trans h2 h4⟩
    · exact .inr ⟨by rw [sameC_l h1]; exact h3, by rw [ltC_l h1]; exact h4⟩
    · exact .inr ⟨by rw [← sameC_r h3]; exact h1, by rw [← ltC_r h3]; exact h2⟩
    · exact .inr ⟨ltC_ne (ltC_trans h2 h4), ltC_trans h2 h4⟩
theorem sameT_cmp : ∀ {a b : List Cell}, sameT a b = true → cmpT a b = 0
  | [], [], _ => rfl
  | [], _ :: _, h => by simp [sameT] at h
  | _ :: _, [], h => by simp [sameT] at h
  | x :: a, y :: b, h => by
    simp only [sameT, Bool.and_eq_true] at h
    rw [cmpT, if_pos h.1]
    exact sameT_cmp h.2
theorem sameT_refl : ∀ a : List Cell, sameT a a = true
  | [] => rfl
  | x :: a => by
    simp only [sameT, Bool.and_eq_true]
    exact ⟨sameC_iff.2 ⟨rfl, rfl, rfl⟩, sameT_refl a⟩
theorem atoms_lt {atoms : List (List Cell)} {p : List Cell → Bool} (h : allAt p (fun a b => decide (cmpT a b < 0)) atoms) {j : Nat} : ∀ (d : Nat) (hk : j + d + 1 < atoms.length), cmpT (atoms[j]'(by omega)) atoms[j + d + 1] < 0
  | 0, hk => by
    have := h.step (k := j + 0 + 1) (by omega) hk (by omega)
    simpa using this
  | d + 1, hk => by
    have h1 := atoms_lt h (j := j) d (by omega)
    have h2 := h.step (k := j + (d + 1) + 1) (by omega) hk (by omega)
    simp only [decide_eq_true_eq] at h2
    exact cmpT_trans h1 (by simpa [Nat.add_assoc] using h2)

def findI (atoms : List (List Cell)) (t : List Cell) : Int := match atoms.findIdx? (fun a => sameT a t) with | some i => (i : Int) | none => -1
theorem findI_at {atoms : List (List Cell)} {t : List Cell} {k : Nat} (hk : k < atoms.length) (h : sameT atoms[k] t = true) (hn : ∀ (i : Nat) (hi : i < atoms.length), i < k → sameT atoms[i] t = false) : findI atoms t = k := by
  have : atoms.findIdx? (fun a => sameT a t) = some k := by
    rw [List.findIdx?_eq_some_iff_getElem]
    exact ⟨hk, h, fun j hj => by rw [hn j (by omega) hj]; decide⟩
  rw [findI, this]
theorem findI_none {atoms : List (List Cell)} {t : List Cell} {k : Nat} (hk : atoms.length ≤ k) (hn : ∀ (i : Nat) (hi : i < atoms.length), i < k → sameT atoms[i] t = false) : findI atoms t = -1 := by
  have : atoms.findIdx? (fun a => sameT a t) = none := by
    rw [List.findIdx?_eq_none_iff]
    intro x hx
    obtain ⟨i, hi⟩ := List.getElem?_of_mem hx
    obtain ⟨h1, rfl⟩ := List.getElem?_eq_some_iff.1 hi
    exact hn i h1 (by omega)
  rw [findI, this]
theorem findI_self {atoms : List (List Cell)} {rs : List Rule} (h : RightP atoms rs) {k : Nat} (hk : k < atoms.length) : findI atoms atoms[k] = k := by
  refine findI_at hk (sameT_refl _) fun i hi hik => ?_
  rw [Bool.eq_false_iff]
  intro hs
  have h1 := sameT_cmp hs
  have h2 := atoms_lt h.atom (j := i) (k - i - 1) (by omega)
  have h3 : i + (k - i - 1) + 1 = k := by omega
  simp only [h3] at h2
  omega

/-! ### Sets with one number more -/
def putI : List Int → Int → List Int
  | [], n => [n]
  | x :: l, n => if x < n then x :: putI l n else if x = n then x :: l else n :: x :: l
theorem putI_step {l : List Int} {n : Int} {k : Nat} (hk : k < l.length) (hp : putI l n = l.take k ++ putI (l.drop k) n) (h : l[k] < n) : putI l n = l.take (k + 1) ++ putI (l.drop (k + 1)) n := by
  rw [hp, List.drop_eq_getElem_cons hk, putI, if_pos h, List.take_succ_eq_append_getElem hk, List.append_assoc]
  rfl
theorem putI_here {l : List Int} {n : Int} {k : Nat} (hk : k < l.length) (hp : putI l n = l.take k ++ putI (l.drop k) n) (h : l[k] = n) : putI l n = l := by
  rw [hp, List.drop_eq_getElem_cons hk, putI, if_neg (by omega), if_pos h, List.getElem_cons_drop, List.take_append_drop]
theorem putI_new {l : List Int} {n : Int} {k : Nat} (hk : k < l.length) (hp : putI l n = l.take k ++ putI (l.drop k) n) (h : ¬ l[k] < n) (h' : ¬ l[k] = n) : putI l n = l.take k ++ n :: l.drop k := by
  rw [hp, List.drop_eq_getElem_cons hk, putI, if_neg h, if_neg h']
theorem putI_end {l : List Int} {n : Int} {k : Nat} (hk : l.length ≤ k) (hp : putI l n = l.take k ++ putI (l.drop k) n) : putI l n = l.take k ++ n :: l.drop k := by
  rw [hp, List.drop_eq_nil_of_le hk]
  rfl
theorem putI_mem {n x : Int} : ∀ {l : List Int}, x ∈ putI l n ↔ x = n ∨ x ∈ l
  | [] => by simp [putI]
  | y :: l => by
    rw [putI]
    split
    · rw [List.mem_cons, putI_mem, List.mem_cons]
      constructor
      · rintro (h | h | h) <;> simp [h]
      · rintro (h | h | h) <;> simp [h]
    · split
      · rename_i h; subst h
        simp
      · simp
theorem putI_sorted {n : Int} : ∀ {l : List Int}, l.Pairwise (· < ·) → (putI l n).Pairwise (· < ·)
  | [], _ => by simp [putI]
  | y :: l, h => by
    obtain ⟨h1, h2⟩ := List.pairwise_cons.1 h
    rw [putI]
    split
    · refine List.pairwise_cons.2 ⟨fun x hx => ?_, putI_sorted h2⟩
      rcases putI_mem.1 hx with rfl | hx
      · assumption
      · exact h1 x hx
    · split
      · exact h
      · refine List.pairwise_cons.2 ⟨fun x hx => ?_, h⟩
        rcases List.mem_cons.1 hx with rfl | hx
        · omega
        · have := h1 x hx; omega
theorem putI_up {n : Int} : ∀ {l : List Int}, (putI l n).length = l.length + 1 ∨ putI l n = l
  | [] => by simp [putI]
  | y :: l => by
    rw [putI]
    split
    · rcases putI_up (n := n) (l := l) with h | h
      · exact .inl (by simp [h])
      · exact .inr (by rw [h])
    · split <;> simp

structure SetOf (n : Nat) (l : List Int) : Prop where
  sorted : l.Pairwise (· < ·)
  range : ∀ x ∈ l, 0 ≤ x ∧ x < n
theorem SetOf.nodup {n : Nat} {l : List Int} (h : SetOf n l) : l.Nodup := h.sorted.imp fun hh => by omega
theorem SetOf.le {n : Nat} {l : List Int} (h : SetOf n l) : l.length ≤ n := nodup_le h.nodup h.range
theorem SetOf.put {n : Nat} {l : List Int} (h : SetOf n l) {x : Int} (hx : 0 ≤ x ∧ x < n) : SetOf n (putI l x) := ⟨putI_sorted h.sorted, fun y hy => by
  rcases putI_mem.1 hy with rfl | hy
  · exact hx
  · exact h.range y hy⟩
theorem SetOf.one {n : Nat} {x : Int} (hx : 0 ≤ x ∧ x < n) : SetOf n [x] := ⟨by simp, fun y hy => by simp at hy; subst hy; exact hx⟩
theorem SetOf.puts {n : Nat} : ∀ {xs l : List Int}, SetOf n l → (∀ x ∈ xs, 0 ≤ x ∧ x < n) → SetOf n (xs.foldl putI l)
  | [], _, h, _ => h
  | x :: xs, l, h, hx => SetOf.puts (xs := xs) (l := putI l x) (h.put (hx x (by simp))) fun y hy => hx y (by simp [hy])
/-- It has grown, or it is as it was. -/
def Up (l l' : List Int) : Prop := l.length < l'.length ∨ l' = l
theorem Up.refl (l : List Int) : Up l l := .inr rfl
theorem Up.le {l l' : List Int} (h : Up l l') : l.length ≤ l'.length := by
  rcases h with h | rfl
  · omega
  · exact Nat.le_refl _
theorem Up.trans {a b c : List Int} (h : Up a b) (h' : Up b c) : Up a c := by
  rcases h with h | rfl
  · exact .inl (Nat.lt_of_lt_of_le h h'.le)
  · exact h'
theorem up_put (l : List Int) (n : Int) : Up l (putI l n) := by
  rcases putI_up (n := n) (l := l) with h | h
  · exact .inl (by omega)
  · exact .inr h
theorem up_puts : ∀ (xs l : List Int), Up l (xs.foldl putI l)
  | [], l => .refl l
  | x :: xs, l => (up_put l x).trans (up_puts xs _)
theorem puts_mem : ∀ {xs l : List Int} {x : Int}, x ∈ l ∨ x ∈ xs → x ∈ xs.foldl putI l
  | [], l, x, h => by simpa using h
  | y :: xs, l, x, h => puts_mem (xs := xs) (by
    rcases h with h | h
    · exact .inl (putI_mem.2 (.inr h))
    · rcases List.mem_cons.1 h with rfl | h
      · exact .inl (putI_mem.2 (.inl rfl))
      · exact .inr h)
def leadR (l : List Int) (r : Rule) : List Int := if r.head ∈ l then r.neg.foldl putI (r.pos.foldl putI l) else l
def leadP (rs : List Rule) (l : List Int) : List Int := rs.foldl leadR l
theorem up_lead (l : List Int) (r : Rule) : Up l (leadR l r) := by
  unfold leadR
  split
  · exact (up_puts _ _).trans (up_puts _ _)
  · exact .refl _
theorem up_leads : ∀ (rs : List Rule) (l : List Int), Up l (leadP rs l)
  | [], l => .refl l
  | r :: rs, l => (up_lead l r).trans (up_leads rs _)
theorem SetOf.lead {n : Nat} {l : List Int} (h : SetOf n l) {r : Rule} (hr : RuleOk n r) : SetOf n (leadR l r) := by
  unfold leadR
  split
  · exact (h.puts hr.2.1).puts hr.2.2
  · exact h
theorem SetOf.leads {n : Nat} : ∀ {rs : List Rule} {l : List Int}, SetOf n l → (∀ r ∈ rs, RuleOk n r) → SetOf n (leadP rs l)
  | [], _, h, _ => h
  | r :: rs, _, h, hr => SetOf.leads (rs := rs) (h.lead (hr r (by simp))) fun r' hr' => hr r' (by simp [hr'])
def Closed (rs : List Rule) (l : List Int) : Prop := ∀ r ∈ rs, r.head ∈ l → (∀ p ∈ r.pos, p ∈ l) ∧ ∀ p ∈ r.neg, p ∈ l
theorem Up.eq {l l' : List Int} (h : Up l l') (hl : l'.length = l.length) : l' = l := by
  rcases h with h | h
  · omega
  · exact h
theorem leads_closed : ∀ {rs : List Rule} {l : List Int}, (leadP rs l).length = l.length → Closed rs l
  | [], _, _ => fun r hr => by cases hr
  | r :: rs, l, h => by
    have h1 := up_lead l r
    have h2 := up_leads rs (leadR l r)
    have h3 : (leadP rs (leadR l r)).length = l.length := h
    have h4 := h1.le
    have h5 := h2.le
    have he : leadR l r = l := h1.eq (by omega)
    intro r' hr' hh
    rcases List.mem_cons.1 hr' with rfl | hr'
    · unfold leadR at he
      rw [if_pos hh] at he
      constructor
      · intro p hp
        rw [← he]
        exact puts_mem (.inl (puts_mem (.inr hp)))
      · intro p hp
        rw [← he]
        exact puts_mem (.inr hp)
    · exact leads_closed (rs := rs) (l := l) (by rw [he] at h3; exact h3) r' hr' hh
theorem leadP_snoc (rs : List Rule) (l : List Int) {k : Nat} (h : k < rs.length) : leadP (rs.take (k + 1)) l = leadR (leadP (rs.take k) l) rs[k] := by
  rw [List.take_succ_eq_append_getElem h, leadP, List.foldl_append]
  rfl
theorem puts_snoc (xs l : List Int) {k : Nat} (h : k < xs.length) : (xs.take (k + 1)).foldl putI l = putI ((xs.take k).foldl putI l) xs[k] := by
  rw [List.take_succ_eq_append_getElem h, List.foldl_append]
  rfl

/-! ### The program that is cut at a set -/
def renR (L : List Int) (r : Rule) : Rule := ⟨placeI L r.head, r.pos.map (placeI L), r.neg.map (placeI L)⟩
def onlyR (rs : List Rule) (L : List Int) : List Rule := (rs.filter fun r => decide (r.head ∈ L)).map (renR L)
def onlyA (atoms : List (List Cell)) (L : List Int) : List (List Cell) := L.map fun i => atoms.getD i.toNat []
section
variable {n : Nat} {rs : List Rule} {L : List Int}
theorem place_mem {p : Int} (h : p ∈ L) : 0 ≤ placeI L p ∧ placeI L p < L.length ∧ ∃ hl : (placeI L p).toNat < L.length, L[(placeI L p).toNat] = p := by
  rw [placeI, if_pos h]
  have := List.idxOf_lt_length_iff.2 h
  exact ⟨by omega, by omega, by simpa using this, by simp⟩
theorem place_bound (p : Int) : -1 ≤ placeI L p ∧ placeI L p ≤ L.length := by
  by_cases h : p ∈ L
  · have := place_mem h; omega
  · rw [placeI, if_neg h]; omega
theorem place_at (h : SetOf n L) {k : Nat} (hk : k < L.length) : placeI L L[k] = k := by
  rw [placeI, if_pos (List.getElem_mem hk), h.nodup.idxOf_getElem]
theorem only_ok (h : PrOk n rs) (hL : SetOf n L) (hc : Closed rs L) : PrOk L.length (onlyR rs L) := by
  refine ⟨Nat.le_trans hL.le h.n_le, ?_, fun r' hr' => ?_⟩
  · have := List.length_filter_le (fun r => decide (r.head ∈ L)) rs
    simp only [onlyR, List.length_map]
    exact Nat.le_trans this h.m_le
  · obtain ⟨r, hr, rfl⟩ := List.mem_map.1 hr'
    obtain ⟨h1, h2⟩ := List.mem_filter.1 hr
    have h2 : r.head ∈ L := by simpa using h2
    obtain ⟨h3, h4⟩ := hc r h1 h2
    have mem : ∀ {p : Int}, p ∈ L → 0 ≤ placeI L p ∧ placeI L p < L.length := fun hp => ⟨(place_mem hp).1, (place_mem hp).2.1⟩
    refine ⟨⟨mem h2, fun p hp => ?_, fun p hp => ?_⟩, ?_⟩
    · obtain ⟨q, hq, rfl⟩ := List.mem_map.1 hp
      exact mem (h3 q hq)
    · obtain ⟨q, hq, rfl⟩ := List.mem_map.1 hp
      exact mem (h4 q hq)
    · have := (h.rule r h1).2
      simpa [renR] using this
/-- Two sets are so alike. -/
def Alike (L : List Int) (so so' : List Bool) : Prop := ∀ (k : Nat) (hk : k < L.length), atB so' (k : Int) = atB so L[k]
theorem Alike.place {so so' : List Bool} (h : Alike L so so') {p : Int} (hp : p ∈ L) : atB so' (placeI L p) = atB so p := by
  obtain ⟨h1, _, h3, h4⟩ := place_mem hp
  have := h _ h3
  rw [h4, Int.toNat_of_nonneg h1] at this
  exact this
theorem Alike.any {so so' : List Bool} (h : Alike L so so') {ns : List Int} (hp : ∀ p ∈ ns, p ∈ L) : anyB so' (ns.map (placeI L)) = anyB so ns := by
  rw [Bool.eq_iff_iff, anyB_iff, anyB_iff]
  constructor
  · rintro ⟨p, hp', ha⟩
    obtain ⟨q, hq, rfl⟩ := List.mem_map.1 hp'
    exact ⟨q, hq, by rw [← h.place (hp q hq)]; exact ha⟩
  · rintro ⟨q, hq, ha⟩
    exact ⟨_, List.mem_map.2 ⟨q, hq, rfl⟩, by rw [h.place (hp q hq)]; exact ha⟩
theorem Alike.gam (h : PrOk n rs) (hL : SetOf n L) (hc : Closed rs L) {so so' : List Bool} (ha : Alike L so so') : Alike L (gam n rs so) (gam L.length (onlyR rs L) so') := fun k hk => by
  have hok := only_ok h hL hc
  have hLk := hL.range _ (List.getElem_mem hk)
  obtain ⟨a, hae⟩ := Int.eq_ofNat_of_zero_le hLk.1
  have han : a < n := by omega
  rw [Bool.eq_iff_iff, (gam_is hok so').iff (hok.filter _) hk, hae, (gam_is h so).iff (h.filter _) han, ← hae]
  constructor
  · intro hd
    refine hd (fun x => ∀ (j : Nat) (hj : j < L.length), x = (j : Int) → Der (rs.filter fun r => !anyB so r.neg) L[j]) (fun r' hr' hp => ?_) k hk rfl
    intro j hj hje
    obtain ⟨h1, h2⟩ := List.mem_filter.1 hr'
    obtain ⟨r, hr, rfl⟩ := List.mem_map.1 h1
    obtain ⟨h3, h4⟩ := List.mem_filter.1 hr
    have h4 : r.head ∈ L := by simpa using h4
    obtain ⟨h5, h6⟩ := hc r h3 h4
    have hje : placeI L r.head = j := hje
    obtain ⟨_, _, h7, h8⟩ := place_mem h4
    have h9 : L[j] = r.head := by
      simp only [hje, Int.toNat_natCast] at h8
      exact h8
    rw [h9]
    refine Der.mk (List.mem_filter.2 ⟨h3, ?_⟩) fun p hp' => ?_
    · rw [← ha.any h6]; exact h2
    · obtain ⟨g1, _, g3, g4⟩ := place_mem (h5 p hp')
      have := hp (placeI L p) (List.mem_map.2 ⟨p, hp', rfl⟩) _ g3 (by omega)
      rwa [g4] at this
  · intro hd
    refine hd (fun x => ∀ (j : Nat) (hj : j < L.length), L[j] = x → Der ((onlyR rs L).filter fun r => !anyB so' r.neg) (j : Int)) (fun r hr hp => ?_) k hk rfl
    intro j hj hje
    obtain ⟨h1, h2⟩ := List.mem_filter.1 hr
    have h4 : r.head ∈ L := by rw [← hje]; exact List.getElem_mem hj
    obtain ⟨h5, h6⟩ := hc r h1 h4
    have hm : renR L r ∈ (onlyR rs L).filter fun r => !anyB so' r.neg := List.mem_filter.2 ⟨List.mem_map.2 ⟨r, List.mem_filter.2 ⟨h1, by simpa using h4⟩, rfl⟩, by
      show (!anyB so' (r.neg.map (placeI L))) = true
      rw [ha.any h6]; exact h2⟩
    have := Der.mk hm fun p hp' => by
      obtain ⟨q, hq, rfl⟩ := List.mem_map.1 hp'
      obtain ⟨g1, _, g3, g4⟩ := place_mem (h5 q hq)
      have := hp q hq _ g3 g4
      rwa [Int.toNat_of_nonneg g1] at this
    have he : (renR L r).head = (j : Int) := by
      show placeI L r.head = j
      rw [← hje]
      exact place_at hL hj
    rwa [he] at this
theorem Alike.alt (h : PrOk n rs) (hL : SetOf n L) (hc : Closed rs L) : ∀ j, Alike L (altB n rs j) (altB L.length (onlyR rs L) j)
  | 0 => Alike.gam h hL hc fun k hk => by
    have hLk := hL.range _ (List.getElem_mem hk)
    have : L[k].toNat < n := by omega
    simp [atB, hk, this]
  | j + 1 => Alike.gam h hL hc (Alike.gam h hL hc (Alike.alt h hL hc j))
theorem Alike.low (h : PrOk n rs) (hL : SetOf n L) (hc : Closed rs L) : Alike L (lowB n rs) (lowB L.length (onlyR rs L)) := by
  have h1 := Alike.alt h hL hc n
  have hok := only_ok h hL hc
  rw [altB_from (lowB_fix' hok) n hL.le] at h1
  exact h1
/-- The model of the program that is cut is the model at the places of the set. -/
theorem alone (h : PrOk n rs) (hL : SetOf n L) (hc : Closed rs L) {k : Nat} (hk : k < L.length) : (modelI L.length (onlyR rs L)).getD k 0 = (modelI n rs).getD L[k].toNat 0 := by
  have hLk := hL.range _ (List.getElem_mem hk)
  have hlt : L[k].toNat < n := by omega
  have h1 := Alike.low h hL hc
  have h2 := Alike.gam h hL hc h1
  have e1 := h1 k hk
  have e2 := h2 k hk
  have e0 : ((L[k].toNat : Nat) : Int) = L[k] := Int.toNat_of_nonneg hLk.1
  simp [modelI, hk, hlt, e1, e2, e0]
end
end Go.Proofs.Ytegjmfcfjedfjaa.Pl
