/-
  A kit for walks: what is known of a frame is a list of slots with their values; what is known of memory is a ghost heap of blocks that no longer change, and a list of blocks that the call owns.
  It speaks of any program. No condition.
-/
import Derived.WalkKit
import Derived.OrdersHeld
import Derived.Deep.LoopGhost
import Derived.Scope
namespace Go.Proofs.Ytnmkffkalnkbbaa.K
open Go Go.RowKit

/-! ### What is known of a frame -/

abbrev Env := List (Nat × Value)

def look : Env → Nat → Option Value
  | [], _ => none
  | (k, v) :: r, t => match Nat.beq k t with
    | true => some v
    | false => look r t

theorem look_same (d : Nat) (v : Value) (e : Env) : look ((d, v) :: e) d = some v := by
  simp [look]

theorem look_other {d t : Nat} (v : Value) (e : Env) (h : d ≠ t) : look ((d, v) :: e) t = look e t := by
  have hb : Nat.beq d t = false := by
    cases hh : Nat.beq d t with
    | false => rfl
    | true => exact absurd (Nat.eq_of_beq_eq_true hh) h
  simp [look, hb]

structure Kn (N : Nat) (e : Env) (a : Act) : Prop where
  size : a.tmps.size = N
  defers : a.defers = []
  cells : ∀ t v, look e t = some v → a.tmps[t]? = some v

def ev (e : Env) : Operand → Option Value
  | .tmp t => look e t
  | .const v => some v
  | .global g => some (.pointer (some ⟨g, 0, none⟩))
  | .func f => some (.func (.func f) #[] #[])

def evL (e : Env) : List Operand → Option (List Value)
  | [] => some []
  | x :: r => match ev e x, evL e r with
    | some v, some vs => some (v :: vs)
    | _, _ => none

variable {P : Program} {N : Nat} {e : Env} {a : Act} {w : World}

theorem Kn.ev (h : Kn N e a) {x : Operand} {v : Value} (hx : ev e x = some v) : a.eval x = v := by
  cases x with
  | tmp t =>
    have := h.cells t v hx
    simp [Act.eval, this]
  | const u => simpa [K.ev, Act.eval] using hx
  | global g => simpa [K.ev, Act.eval] using hx
  | func f => simpa [K.ev, Act.eval] using hx

theorem Kn.evL (h : Kn N e a) : ∀ {xs : List Operand} {vs : List Value}, evL e xs = some vs → xs.map a.eval = vs
  | [], vs, hx => by simpa [K.evL] using hx
  | x :: r, vs, hx => by
    unfold K.evL at hx
    cases h1 : K.ev e x with
    | none => simp [h1] at hx
    | some v =>
      cases h2 : K.evL e r with
      | none => simp [h1, h2] at hx
      | some us =>
        simp [h1, h2] at hx
        subst hx
        simp [h.ev h1, Kn.evL h h2]

theorem Kn.put (h : Kn N e a) {d : Nat} (hd : d < N) (v : Value) : Kn N ((d, v) :: e) (a.put (some d) v) := by
  refine ⟨by simpa [Act.put] using h.size, h.defers, fun t u hu => ?_⟩
  by_cases hdt : d = t
  · subst hdt
    rw [look_same] at hu
    cases hu
    have : d < a.tmps.size := by rw [h.size]; exact hd
    simp [Act.put, this]
  · rw [look_other v e hdt] at hu
    have := h.cells t u hu
    simp [Act.put, Array.getElem?_setIfInBounds_ne hdt, this]

theorem Kn.put0 (h : Kn N e a) (v : Value) : Kn N e (a.put none v) := h

theorem blt_lt {i j : Nat} (h : Nat.blt i j = true) : i < j := by simpa [Nat.blt_eq] using h

/-- The slots of one list are known by another one. -/
def Sub (E e : Env) : Prop := ∀ t v, look E t = some v → look e t = some v
theorem Sub.nil : Sub [] e := fun _ _ h => by cases h
theorem Sub.refl (e : Env) : Sub e e := fun _ _ h => h
theorem Sub.cons {E : Env} {t : Nat} {v : Value} (h : look e t = some v) (r : Sub E e) : Sub ((t, v) :: E) e := fun s u hu => by
  by_cases hts : t = s
  · subst hts
    rw [look_same] at hu
    cases hu
    exact h
  · rw [look_other v E hts] at hu
    exact r s u hu
theorem Kn.sub {E : Env} (h : Kn N e a) (hs : Sub E e) : Kn N E a := ⟨h.size, h.defers, fun t v ht => h.cells t v (hs t v ht)⟩

/-! ### Code -/

abbrev Post := Exit → Act → World → Prop

def CW (P : Program) (N : Nat) (c : Code) (e : Env) (w : World) (Q : Post) : Prop := ∀ a, Kn N e a → c.wp P Q a w
def PQ (N : Nat) (e : Env) (w : World) (Q : Post) (x : Exit) : Prop := ∀ a, Kn N e a → Q x a w
def OL (P : Program) (N : Nat) (ops : Array Oper) (l : List Oper) (e : Env) (w : World) (Q : Post) : Prop := ∀ a, Kn N e a → wpList P ops Q l a w

section
variable {Q : Post} {c x y : Code}

theorem cw_seq (h : CW P N x e w (Exit.then (y.wp P Q) Q)) : CW P N (x.seq y) e w Q := fun a ha => wp_seq (h a ha)
theorem cw_skip (h : PQ N e w Q .normal) : CW P N .skip e w Q := fun a ha => wp_skip (h a ha)
theorem cw_exit {id : Nat} (h : PQ N e w Q (.exit id)) : CW P N (.exit id) e w Q := fun a ha => wp_exit (h a ha)
theorem cw_ret (h : PQ N e w Q .ret) : CW P N .ret e w Q := fun a ha => wp_ret (h a ha)
theorem cw_label {l : Nat} (h : PQ N e w Q .normal) : CW P N (.label l) e w Q := fun a ha => wp_label (h a ha)
theorem cw_block {id : Nat} (h : CW P N c e w (Exit.inBlock id Q)) : CW P N (.block id c) e w Q := fun a ha => wp_block (h a ha)
theorem cw_cond {o : Operand} {b : Bool} (hb : ev e o = some (.bool b)) (ht : b = true → CW P N x e w Q) (hf : b = false → CW P N y e w Q) : CW P N (.cond o x y) e w Q := fun a ha =>
  wp_cond_split (ha.ev hb) (fun h => ht h a ha) (fun h => hf h a ha)
theorem cw_cond_t {o : Operand} (hb : ev e o = some (.bool true)) (ht : CW P N x e w Q) : CW P N (.cond o x y) e w Q := fun a ha => wp_cond_true (ha.ev hb) (ht a ha)
theorem cw_cond_f {o : Operand} (hb : ev e o = some (.bool false)) (hf : CW P N y e w Q) : CW P N (.cond o x y) e w Q := fun a ha => wp_cond_false (ha.ev hb) (hf a ha)
theorem cw_region {id : Nat} {l : List Oper} (h : OL P N l.toArray l e w Q) : CW P N (.region id l.toArray false) e w Q := fun a ha => wp_region_lit (h a ha)
theorem cw_sub {E : Env} (hs : Sub E e) (h : CW P N c E w Q) : CW P N c e w Q := fun a ha => h a (ha.sub hs)
theorem cw_post {Q' : Post} (h : CW P N c e w Q') (hq : ∀ x a w, Q' x a w → Q x a w) : CW P N c e w Q := fun a ha => wp_mono (h a ha) hq

theorem cw_scope (h : CW P N c e w (Exit.noGoto Q)) : CW P N (.scope c) e w Q := fun a ha => wp_scope_straight (h a ha)
theorem pq_ng_normal (h : PQ N e w Q .normal) : PQ N e w (Exit.noGoto Q) .normal := h
theorem pq_ng_ret (h : PQ N e w Q .ret) : PQ N e w (Exit.noGoto Q) .ret := h
theorem pq_ng_exit {id : Nat} (h : PQ N e w Q (.exit id)) : PQ N e w (Exit.noGoto Q) (.exit id) := h
theorem pq_then (h : CW P N y e w Q) : PQ N e w (Exit.then (y.wp P Q) Q) .normal := h
theorem pq_exit {id : Nat} {K : Act → World → Prop} (h : PQ N e w Q (.exit id)) : PQ N e w (Exit.then K Q) (.exit id) := h
theorem pq_ret {K : Act → World → Prop} (h : PQ N e w Q .ret) : PQ N e w (Exit.then K Q) .ret := h
theorem pq_in_normal {id : Nat} (h : PQ N e w Q .normal) : PQ N e w (Exit.inBlock id Q) .normal := h
theorem pq_in_ret {id : Nat} (h : PQ N e w Q .ret) : PQ N e w (Exit.inBlock id Q) .ret := h
theorem pq_in_exit {id : Nat} (h : PQ N e w Q .normal) : PQ N e w (Exit.inBlock id Q) (.exit id) := fun a ha => by
  have := h a ha
  simpa [Exit.inBlock] using this
theorem pq_in_other {id j : Nat} (hne : Nat.beq j id = false) (h : PQ N e w Q (.exit j)) : PQ N e w (Exit.inBlock id Q) (.exit j) := fun a ha => by
  have hj : ¬ j = id := fun hh => by subst hh; simp at hne
  have := h a ha
  simpa [Exit.inBlock, hj] using this

/-- What a round of a loop hands on: the relation, at a smaller number. -/
def LoopEnd (N : Nat) (I : Env → World → Nat → Prop) (n : Nat) (a : Act) (w : World) : Prop := ∃ e n', n' < n ∧ I e w n' ∧ Kn N e a
theorem pq_loop {I : Env → World → Nat → Prop} {n : Nat} (E : Env) (n' : Nat) (hI : I E w n') (hs : Sub E e) (hn : n' < n) : PQ N e w (Exit.then (LoopEnd N I n) Q) .normal := fun _ ha => ⟨E, n', hn, hI, ha.sub hs⟩
theorem cw_loop (I : Env → World → Nat → Prop) (E : Env) (n : Nat) (hI : I E w n) (hs : Sub E e) (round : ∀ e w n, I e w n → CW P N c e w (Exit.then (LoopEnd N I n) Q)) : CW P N (.loop c) e w Q := fun a ha =>
  wp_loop_ghost (fun n a w => ∃ e, I e w n ∧ Kn N e a) n ⟨E, hI, ha.sub hs⟩ fun n a w ⟨e, hI, hk⟩ => wp_mono (round e w n hI a hk) fun x a' w' hq => by
    cases x with
    | normal => obtain ⟨e', n', h1, h2, h3⟩ := hq; exact ⟨n', h1, e', h2, h3⟩
    | exit id => exact hq
    | goto l => exact hq
    | ret => exact hq
    | panic ch => exact hq
    | outgrown => exact hq

/-- A cut: what is known behind a piece of code. -/
theorem cw_cut (I : Env → World → Prop) (h1 : CW P N x e w (Exit.then (fun a w' => ∃ E, I E w' ∧ Kn N E a) Q)) (h2 : ∀ E w', I E w' → CW P N y E w' Q) : CW P N (x.seq y) e w Q := fun a ha =>
  wp_seq (wp_mono (h1 a ha) fun ex a' w' hq => by
    cases ex with
    | normal => obtain ⟨E, hI, hk⟩ := hq; exact h2 E w' hI a' hk
    | exit id => exact hq
    | goto l => exact hq
    | ret => exact hq
    | panic ch => exact hq
    | outgrown => exact hq)
theorem pq_cut {I : Env → World → Prop} (E : Env) (hI : I E w) (hs : Sub E e) : PQ N e w (Exit.then (fun a w' => ∃ E, I E w' ∧ Kn N E a) Q) .normal := fun _ ha => ⟨E, hI, ha.sub hs⟩
end

/-! ### The frame at the start, and at the end -/

def envOf : Nat → List Value → Env
  | _, [] => []
  | k, v :: r => (k, v) :: envOf (k + 1) r

theorem envOf_look : ∀ (l : List Value) (k t : Nat) (v : Value), look (envOf k l) t = some v → k ≤ t ∧ l[t - k]? = some v
  | [], _, _, _, h => by cases h
  | u :: r, k, t, v, h => by
    unfold envOf at h
    by_cases hkt : k = t
    · subst hkt
      rw [look_same] at h
      exact ⟨Nat.le_refl _, by simpa using h⟩
    · rw [look_other u _ hkt] at h
      obtain ⟨h1, h2⟩ := envOf_look r (k + 1) t v h
      refine ⟨by omega, ?_⟩
      rw [show t - k = (t - (k + 1)) + 1 from by omega]
      simpa using h2

theorem enter {f : FuncId} {fn : Func} {c : Code} {args : List Value} {R : Ending → World → Prop} (hf : P.funcs[f]? = some fn) (hb : fn.body = some c) (hN : fn.ntmps = N) (hlen : args.length ≤ N)
    (h : CW P N c (envOf 0 args) w (bodyPost P fn R)) : Calls P f args.toArray w R := by
  refine calls_of_wp hf hb (h _ ⟨?_, rfl, fun t v ht => ?_⟩)
  · simp [hN]; omega
  · obtain ⟨_, h2⟩ := envOf_look args 0 t v ht
    have hlt : t < args.length := by
      rcases Nat.lt_or_ge t args.length with hh | hh
      · exact hh
      · simp [List.getElem?_eq_none hh] at h2
    rw [Array.getElem?_append_left (by simpa using hlt)]
    simpa using h2

section
variable {fn : Func} {R : Ending → World → Prop}
theorem ret1 {t : Tmp} {v : Value} (hr : fn.results = #[.tmp t]) (hv : look e t = some v) (hR : R (.returned v) w) : PQ N e w (bodyPost P fn R) .ret := fun a ha => by
  refine ⟨ha.defers, v, ?_, hR⟩
  have := ha.cells t v hv
  rw [results_tmp hr]
  simp [this]
theorem ret0 (hr : fn.results = #[]) (hR : R (.returned (.tuple #[])) w) : PQ N e w (bodyPost P fn R) .ret := fun _ ha => ⟨ha.defers, _, results_none hr _ _ _, hR⟩
theorem end0 (hr : fn.results = #[]) (hR : R (.returned (.tuple #[])) w) : PQ N e w (bodyPost P fn R) .normal := fun _ ha => ⟨ha.defers, _, results_none hr _ _ _, hR⟩
theorem ret2 {t u : Tmp} {v x : Value} (hr : fn.results = #[.tmp t, .tmp u]) (hv : look e t = some v) (hx : look e u = some x) (hR : R (.returned (.tuple #[v, x])) w) : PQ N e w (bodyPost P fn R) .ret := fun a ha => by
  refine ⟨ha.defers, _, ?_, hR⟩
  have h1 := ha.cells t v hv
  have h2 := ha.cells u x hx
  rw [results_tmp2 hr]
  simp [h1, h2]
theorem ret3 {t u s : Tmp} {v x y : Value} (hr : fn.results = #[.tmp t, .tmp u, .tmp s]) (hv : look e t = some v) (hx : look e u = some x) (hy : look e s = some y) (hR : R (.returned (.tuple #[v, x, y])) w) : PQ N e w (bodyPost P fn R) .ret := fun a ha => by
  refine ⟨ha.defers, .tuple #[v, x, y], ?_, hR⟩
  have h1 := ha.cells t v hv
  have h2 := ha.cells u x hx
  have h3 := ha.cells s y hy
  simp [results, hr, h1, h2, h3]
end

/-! ### Operations in the order of the text -/

def OpK (P : Program) (N : Nat) (e : Env) (w : World) (o : Oper) (R : Value → World → Prop) : Prop := ∀ a, Kn N e a → ∀ K Q, (∀ v w', R v w' → K (a.put o.dst v) w') → o.wp P a w K Q
def OpP (P : Program) (N : Nat) (e : Env) (o : Oper) (v : Value) : Prop := ∀ a, Kn N e a → ∀ w, (execOp a.eval o).run P w = .ok (.value v) w
def OpL (P : Program) (N : Nat) (e : Env) (S : World → Prop) (o : Oper) (v : Value) : Prop := ∀ a, Kn N e a → ∀ w, S w → (execOp a.eval o).run P w = .ok (.value v) w

theorem OpP.opl {S : World → Prop} {o : Oper} {v : Value} (h : OpP P N e o v) : OpL P N e S o v := fun a ha w _ => h a ha w
theorem OpL.opk {S : World → Prop} {o : Oper} {v : Value} (h : OpL P N e S o v) (hS : S w) : OpK P N e w o (fun u w' => u = v ∧ w' = w) := fun a ha K Q hK => by
  unfold Oper.wp
  rw [h a ha w hS, Oper.upon_value]
  exact hK _ _ ⟨rfl, rfl⟩
theorem opk_run {o : Oper} {R : Value → World → Prop} (h : ∀ a, Kn N e a → ∃ v w', (execOp a.eval o).run P w = .ok (.value v) w' ∧ R v w') : OpK P N e w o R := fun a ha K Q hK => by
  obtain ⟨v, w', hr, hR⟩ := h a ha
  unfold Oper.wp
  rw [hr, Oper.upon_value]
  exact hK _ _ hR
theorem opk_skip {o : Oper} {R : Value → World → Prop} (h : ∀ a, Kn N e a → ∃ w', (execOp a.eval o).run P w = .ok .skip w' ∧ R undef w') : OpK P N e w o R := fun a ha K Q hK => by
  obtain ⟨w', hr, hR⟩ := h a ha
  unfold Oper.wp
  rw [hr, Oper.upon_skip]
  exact hK _ _ hR
theorem opk_enter {o : Oper} {R : Value → World → Prop} {f : FuncId} {args : Array Value} {S : Ending → World → Prop} (h : ∀ a, Kn N e a → (execOp a.eval o).run P w = .ok (.enter f args) w)
    (hc : Calls P f args w S) (hS : ∀ en w', S en w' → ∃ v, en = .returned v ∧ R v w') : OpK P N e w o R := fun a ha K Q hK => by
  unfold Oper.wp
  rw [h a ha, Oper.upon_enter]
  refine hc.mono fun en w' hs => ?_
  obtain ⟨v, rfl, hR⟩ := hS en w' hs
  exact hK _ _ hR
theorem OpK.mono {o : Oper} {R R' : Value → World → Prop} (h : OpK P N e w o R) (hr : ∀ v w', R v w' → R' v w') : OpK P N e w o R' := fun a ha K Q hK => h a ha K Q fun v w' hR => hK v w' (hr v w' hR)

section
variable {Q : Post} {ops : Array Oper} {l : List Oper} {d : Tmp} {op : Op} {ty : TypeId} {pos : String} {after : Array Edge}

theorem ol_nil (h : PQ N e w Q .normal) : OL P N ops [] e w Q := fun a ha => wpList_nil (h a ha)
theorem ol_step {R : Value → World → Prop} (hd : Nat.blt d N = true) (hk : OpK P N e w ⟨some d, op, ty, pos, after, none⟩ R) (h : ∀ v w', R v w' → OL P N ops l ((d, v) :: e) w' Q) :
    OL P N ops (⟨some d, op, ty, pos, after, none⟩ :: l) e w Q := fun a ha =>
  wpList_plain rfl fun K hK => hk a ha K Q fun v w' hR => hK _ _ (h v w' hR _ (ha.put (blt_lt hd) v))
theorem ol_step0 {R : Value → World → Prop} (hk : OpK P N e w ⟨none, op, ty, pos, after, none⟩ R) (h : ∀ v w', R v w' → OL P N ops l e w' Q) :
    OL P N ops (⟨none, op, ty, pos, after, none⟩ :: l) e w Q := fun a ha =>
  wpList_plain rfl fun K hK => hk a ha K Q fun v w' hR => hK _ _ (h v w' hR _ (ha.put0 v))
theorem ol_pure {v : Value} (hd : Nat.blt d N = true) (hk : OpP P N e ⟨some d, op, ty, pos, after, none⟩ v) (h : OL P N ops l ((d, v) :: e) w Q) : OL P N ops (⟨some d, op, ty, pos, after, none⟩ :: l) e w Q :=
  ol_step hd ((OpP.opl (S := fun _ => True) hk).opk trivial) fun _ _ ⟨h1, h2⟩ => by subst h1; subst h2; exact h
theorem ol_load {S : World → Prop} {v : Value} (hd : Nat.blt d N = true) (hk : OpL P N e S ⟨some d, op, ty, pos, after, none⟩ v) (hS : S w) (h : OL P N ops l ((d, v) :: e) w Q) : OL P N ops (⟨some d, op, ty, pos, after, none⟩ :: l) e w Q :=
  ol_step hd (hk.opk hS) fun _ _ ⟨h1, h2⟩ => by subst h1; subst h2; exact h

/-- The Bool that an operation of a region has left: what a guard asks for. -/
def gdst (ops : Array Oper) (j : Nat) : Option Tmp := (ops[j]?).bind (·.dst)
theorem wanted_of {o : Oper} {j : Nat} {t : Tmp} {b want : Bool} (hg : o.guard = some (j, want)) (hj : gdst ops j = some t) (hb : look e t = some (.bool b)) (ha : Kn N e a) :
    Region.wanted o (yielded ops a.tmps) = (b == want) := by
  have hc := ha.cells t _ hb
  unfold Region.wanted
  rw [hg]
  unfold gdst at hj
  simp only [yielded, hj]
  cases b <;> cases want <;> simp [hc]
theorem ol_guard_step {R : Value → World → Prop} {j : Nat} {t : Tmp} {want : Bool} (hj : gdst ops j = some t) (hb : look e t = some (.bool want)) (hd : Nat.blt d N = true) (hk : OpK P N e w ⟨some d, op, ty, pos, after, some (j, want)⟩ R)
    (h : ∀ v w', R v w' → OL P N ops l ((d, v) :: e) w' Q) : OL P N ops (⟨some d, op, ty, pos, after, some (j, want)⟩ :: l) e w Q := fun a ha =>
  wpList_step fun K hK => by
    rw [if_pos (by rw [wanted_of rfl hj hb ha]; simp)]
    exact hk a ha K Q fun v w' hR => hK _ _ (h v w' hR _ (ha.put (blt_lt hd) v))
theorem ol_guard_pure {v : Value} {j : Nat} {t : Tmp} {want : Bool} (hj : gdst ops j = some t) (hb : look e t = some (.bool want)) (hd : Nat.blt d N = true) (hk : OpP P N e ⟨some d, op, ty, pos, after, some (j, want)⟩ v)
    (h : OL P N ops l ((d, v) :: e) w Q) : OL P N ops (⟨some d, op, ty, pos, after, some (j, want)⟩ :: l) e w Q :=
  ol_guard_step hj hb hd ((OpP.opl (S := fun _ => True) hk).opk trivial) fun _ _ ⟨h1, h2⟩ => by subst h1; subst h2; exact h
theorem ol_guard_load {S : World → Prop} {v : Value} {j : Nat} {t : Tmp} {want : Bool} (hj : gdst ops j = some t) (hb : look e t = some (.bool want)) (hd : Nat.blt d N = true) (hk : OpL P N e S ⟨some d, op, ty, pos, after, some (j, want)⟩ v) (hS : S w)
    (h : OL P N ops l ((d, v) :: e) w Q) : OL P N ops (⟨some d, op, ty, pos, after, some (j, want)⟩ :: l) e w Q :=
  ol_guard_step hj hb hd (hk.opk hS) fun _ _ ⟨h1, h2⟩ => by subst h1; subst h2; exact h
theorem ol_guard_no {j : Nat} {t : Tmp} {want b : Bool} (hj : gdst ops j = some t) (hb : look e t = some (.bool b)) (hne : (b == want) = false) (hd : Nat.blt d N = true)
    (h : OL P N ops l ((d, undef) :: e) w Q) : OL P N ops (⟨some d, op, ty, pos, after, some (j, want)⟩ :: l) e w Q := fun a ha =>
  wpList_step fun K hK => by
    rw [if_neg (by rw [wanted_of rfl hj hb ha]; simp [hne])]
    exact hK _ _ (h _ (ha.put (blt_lt hd) undef))

theorem wanted_undef {o : Oper} {j : Nat} {t : Tmp} {want : Bool} (hg : o.guard = some (j, want)) (hj : gdst ops j = some t) (hb : look e t = some undef) (ha : Kn N e a) :
    Region.wanted o (yielded ops a.tmps) = false := by
  have hc := ha.cells t _ hb
  unfold Region.wanted
  rw [hg]
  unfold gdst at hj
  simp only [yielded, hj]
  simp [hc, undef]
theorem ol_guard_undef {j : Nat} {t : Tmp} {want : Bool} (hj : gdst ops j = some t) (hb : look e t = some undef) (hd : Nat.blt d N = true)
    (h : OL P N ops l ((d, undef) :: e) w Q) : OL P N ops (⟨some d, op, ty, pos, after, some (j, want)⟩ :: l) e w Q := fun a ha =>
  wpList_step fun K hK => by
    rw [if_neg (by rw [wanted_undef rfl hj hb ha]; simp)]
    exact hK _ _ (h _ (ha.put (blt_lt hd) undef))

/-- The cases of a Bool that has just been left. -/
theorem ol_split {b : Bool} (ht : b = true → OL P N ops l ((d, .bool true) :: e) w Q) (hf : b = false → OL P N ops l ((d, .bool false) :: e) w Q) : OL P N ops l ((d, .bool b) :: e) w Q := by
  cases b
  · exact hf rfl
  · exact ht rfl
end

/-! ### A region that draws its order: loads may be taken first, as long as what they read stays -/

def isLoad (o : Oper) : Bool := match o.op with | .load .. => true | .lookup .. => true | _ => false
/-- A load of the region does not wait for number j, nor j for it (by an edge of its own): then j must keep what the loads read. -/
def need (ops : Array Oper) (j : Nat) : Bool := (List.range ops.size).any fun i =>
  i != j && ((ops[i]?).map isLoad).getD false && !((ops[j]?).map fun o => o.after.any fun x => Region.binds .any x && x.on == i).getD false
def lst (n : Nat) (ds : List Nat) : Array Bool := ds.foldr (fun i l => l.setIfInBounds i true) (Array.replicate n false)

section
variable {Q : Post} {ops : Array Oper} {S : World → Prop}

theorem need_of {i j : Nat} {oi oj : Oper} (hi : ops[i]? = some oi) (hj : ops[j]? = some oj) (hl : isLoad oi = true) (hji : j ≠ i) (hno : ∀ x ∈ oj.after, Region.binds .any x = true → x.on ≠ i) : need ops j = true := by
  unfold need
  rw [List.any_eq_true]
  refine ⟨i, List.mem_range.2 (Array.getElem?_eq_some_iff.1 hi).1, ?_⟩
  have h3 : (oj.after.any fun x => Region.binds .any x && x.on == i) = false := by
    rw [Array.any_eq_false']
    intro x hx hh
    simp only [Bool.and_eq_true, beq_iff_eq] at hh
    exact hno x hx hh.1 hh.2
  simp [hi, hj, hl, h3, Ne.symm hji]

def wpT (P : Program) (ops : Array Oper) (Q : Post) (S : World → Prop) : Nat → Array Bool → Act → World → Prop
  | 0, listed, a, w => Region.ready .any ops listed = [] ∧ Q .normal a w
  | fuel + 1, listed, a, w =>
    (Region.ready .any ops listed = [] → Q .normal a w) ∧
    ∀ i ∈ Region.ready .any ops listed, wpOp P ops Q i (fun a' w' => (need ops i = true → S w → S w') ∧ wpT P ops Q S fuel (listed.setIfInBounds i true) a' w') a w

theorem wpAny_of_wpT : ∀ (fuel : Nat) (listed : Array Bool) (a : Act) (w : World), wpT P ops Q S fuel listed a w → wpAny P .any ops Q fuel listed a w
  | 0, _, _, _, h => h
  | fuel + 1, _, _, _, h => ⟨h.1, fun i hi => wpOp_mono (fun a' w' h' => wpAny_of_wpT fuel _ a' w' h'.2) (h.2 i hi)⟩

theorem wpT_first {i : Nat} {oi : Oper} {v : Value} (hi : ops[i]? = some oi) (hsel : ∀ (j : Nat) (o : Oper) cs b, ops[j]? = some o → o.op ≠ .select cs b)
    (hQ : ∀ c a w, Q (.panic c) (a.put oi.dst v) w → Q (.panic c) a w) :
    ∀ (fuel : Nat) (listed : Array Bool) (a : Act) (w : World),
      (∀ j oj, ops[j]? = some oj → j ≠ i → listed.getD j true = false → (∀ x ∈ oj.after, Region.binds .any x = true → x.on ≠ i) → oi.apart ops oj = true) →
      i ∈ Region.ready .any ops listed → YieldsIf P ops (fun w => isLoad oi = true → S w) oi v a → (isLoad oi = true → S w) →
      wpT P ops Q S fuel (listed.setIfInBounds i true) (a.put oi.dst v) w → wpT P ops Q S (fuel + 1) listed a w := by
  intro fuel
  induction fuel with
  | zero =>
    intro listed a w _ hr hy hS H
    refine ⟨fun h => (by rw [h] at hr; cases hr), fun j hj => ?_⟩
    by_cases hji : j = i
    · subst hji; exact hy.wpOp hi hS ⟨fun _ h => h, H⟩
    · have := ready_mono hj hji
      rw [H.1] at this
      cases this
  | succ fuel ih =>
    intro listed a w hfree hr hy hS H
    refine ⟨fun h => (by rw [h] at hr; cases hr), fun j hj => ?_⟩
    by_cases hji : j = i
    · subst hji; exact hy.wpOp hi hS ⟨fun _ h => h, H⟩
    · have h1 := H.2 j (ready_mono hj hji)
      obtain ⟨hjun, oj, hoj, hall⟩ := mem_ready.1 hj
      have hun := (mem_ready.1 hr).1
      have hnot : ∀ x ∈ oj.after, Region.binds .any x = true → x.on ≠ i := fun x hx hb heq => by
        have h1 := hall x hx hb
        rw [heq] at h1
        rcases Nat.lt_or_ge i listed.size with h' | h'
        · simp [h'] at hun h1; rw [hun] at h1; cases h1
        · simp [Array.getElem?_eq_none h'] at h1
      have h2 := wpOp_putIf hoj (hfree j oj hoj hji hjun hnot) (fun cs b => hsel i oi cs b hi) (fun cs b => hsel j oj cs b hoj) hQ hy h1
      have hfree' : ∀ k ok, ops[k]? = some ok → k ≠ i → (listed.setIfInBounds j true).getD k true = false →
          (∀ x ∈ ok.after, Region.binds .any x = true → x.on ≠ i) → oi.apart ops ok = true := fun k ok hk hki hu hno => by
        refine hfree k ok hk hki ?_ hno
        by_cases hjk : j = k
        · subst hjk; exact hjun
        · rw [getD_set_ne true hjk] at hu; exact hu
      refine wpOp_mono (fun a' w' h3 => ?_) h2
      have hcomm : (listed.setIfInBounds j true).setIfInBounds i true = (listed.setIfInBounds i true).setIfInBounds j true := Array.setIfInBounds_comm _ _ hji
      refine ⟨h3.2.1, ih (listed.setIfInBounds j true) a' w' hfree' (ready_mono hr (Ne.symm hji)) h3.1 (fun hl => h3.2.1 (need_of hi hoj hl hji hnot) (hS hl)) ?_⟩
      rw [hcomm]
      exact h3.2.2

/-- Whatever order is picked from here on; ds: the numbers that have come up, the last one first. -/
def AL (P : Program) (N : Nat) (ops : Array Oper) (Q : Post) (S : World → Prop) (fuel : Nat) (ds : List Nat) (e : Env) (w : World) : Prop := ∀ a, Kn N e a → wpT P ops Q S fuel (lst ops.size ds) a w

theorem al_begin {id n : Nat} (S : World → Prop) (hm : P.follows .mixedOrders = true) (hn : ops.size = n) (h : AL P N ops Q S n [] e w.drew) : CW P N (.region id ops true) e w Q := fun a ha =>
  wp_region_any hm (by
    have := h a ha
    subst hn
    exact wpAny_of_wpT _ _ _ _ this)
theorem al_done {fuel : Nat} {ds : List Nat} (hr : Region.ready .any ops (lst ops.size ds) = []) (h : PQ N e w Q .normal) : AL P N ops Q S fuel ds e w := fun a ha => by
  cases fuel with
  | zero => exact ⟨hr, h a ha⟩
  | succ k => exact ⟨fun _ => h a ha, by rw [hr]; simp⟩

theorem al_take {i d fuel : Nat} {ds : List Nat} {op : Op} {ty : TypeId} {pos : String} {after : Array Edge} {v : Value} (hi : ops[i]? = some ⟨some d, op, ty, pos, after, none⟩)
    (hs : Region.noSelect ops = true) (hf : Region.free .any ops (lst ops.size ds) i = true) (hr : (Region.ready .any ops (lst ops.size ds)).contains i = true)
    (hd : Nat.blt d N = true) (hQ : ∀ c (a : Act) w, Q (.panic c) (a.put (some d) v) w → Q (.panic c) a w)
    (hk : OpP P N e ⟨some d, op, ty, pos, after, none⟩ v) (hl : isLoad ⟨some d, op, ty, pos, after, none⟩ = false)
    (h : AL P N ops Q S fuel (i :: ds) ((d, v) :: e) w) : AL P N ops Q S (fuel + 1) ds e w := fun a ha =>
  wpT_first hi (Region.noSelect_spec hs) hQ fuel _ a w (Region.free_spec hi hf) (by simpa using hr) (.inl ⟨rfl, fun w _ => hk a ha w⟩) (fun h => by rw [hl] at h; cases h) (h _ (ha.put (blt_lt hd) v))
theorem al_load {i d fuel : Nat} {ds : List Nat} {op : Op} {ty : TypeId} {pos : String} {after : Array Edge} {v : Value} (hi : ops[i]? = some ⟨some d, op, ty, pos, after, none⟩)
    (hs : Region.noSelect ops = true) (hf : Region.free .any ops (lst ops.size ds) i = true) (hr : (Region.ready .any ops (lst ops.size ds)).contains i = true)
    (hd : Nat.blt d N = true) (hQ : ∀ c (a : Act) w, Q (.panic c) (a.put (some d) v) w → Q (.panic c) a w)
    (hk : OpL P N e S ⟨some d, op, ty, pos, after, none⟩ v) (hl : isLoad ⟨some d, op, ty, pos, after, none⟩ = true) (hS : S w)
    (h : AL P N ops Q S fuel (i :: ds) ((d, v) :: e) w) : AL P N ops Q S (fuel + 1) ds e w := fun a ha =>
  wpT_first hi (Region.noSelect_spec hs) hQ fuel _ a w (Region.free_spec hi hf) (by simpa using hr) (.inl ⟨rfl, fun w hw => hk a ha w (hw hl)⟩) (fun _ => hS) (h _ (ha.put (blt_lt hd) v))
theorem al_gtake {i d fuel j : Nat} {t : Tmp} {want : Bool} {ds : List Nat} {op : Op} {ty : TypeId} {pos : String} {after : Array Edge} {v : Value} (hi : ops[i]? = some ⟨some d, op, ty, pos, after, some (j, want)⟩)
    (hs : Region.noSelect ops = true) (hf : Region.free .any ops (lst ops.size ds) i = true) (hr : (Region.ready .any ops (lst ops.size ds)).contains i = true) (hj : gdst ops j = some t) (hb : look e t = some (.bool want))
    (hd : Nat.blt d N = true) (hQ : ∀ c (a : Act) w, Q (.panic c) (a.put (some d) v) w → Q (.panic c) a w)
    (hk : OpP P N e ⟨some d, op, ty, pos, after, some (j, want)⟩ v) (hl : isLoad ⟨some d, op, ty, pos, after, some (j, want)⟩ = false)
    (h : AL P N ops Q S fuel (i :: ds) ((d, v) :: e) w) : AL P N ops Q S (fuel + 1) ds e w := fun a ha =>
  wpT_first hi (Region.noSelect_spec hs) hQ fuel _ a w (Region.free_spec hi hf) (by simpa using hr) (.inl ⟨by rw [wanted_of rfl hj hb ha]; simp, fun w _ => hk a ha w⟩) (fun h => by rw [hl] at h; cases h) (h _ (ha.put (blt_lt hd) v))
theorem al_gload {i d fuel j : Nat} {t : Tmp} {want : Bool} {ds : List Nat} {op : Op} {ty : TypeId} {pos : String} {after : Array Edge} {v : Value} (hi : ops[i]? = some ⟨some d, op, ty, pos, after, some (j, want)⟩)
    (hs : Region.noSelect ops = true) (hf : Region.free .any ops (lst ops.size ds) i = true) (hr : (Region.ready .any ops (lst ops.size ds)).contains i = true) (hj : gdst ops j = some t) (hb : look e t = some (.bool want))
    (hd : Nat.blt d N = true) (hQ : ∀ c (a : Act) w, Q (.panic c) (a.put (some d) v) w → Q (.panic c) a w)
    (hk : OpL P N e S ⟨some d, op, ty, pos, after, some (j, want)⟩ v) (hl : isLoad ⟨some d, op, ty, pos, after, some (j, want)⟩ = true) (hS : S w)
    (h : AL P N ops Q S fuel (i :: ds) ((d, v) :: e) w) : AL P N ops Q S (fuel + 1) ds e w := fun a ha =>
  wpT_first hi (Region.noSelect_spec hs) hQ fuel _ a w (Region.free_spec hi hf) (by simpa using hr) (.inl ⟨by rw [wanted_of rfl hj hb ha]; simp, fun w hw => hk a ha w (hw hl)⟩) (fun _ => hS) (h _ (ha.put (blt_lt hd) v))
theorem al_gskip {i d fuel j : Nat} {t : Tmp} {want b : Bool} {ds : List Nat} {op : Op} {ty : TypeId} {pos : String} {after : Array Edge} (hi : ops[i]? = some ⟨some d, op, ty, pos, after, some (j, want)⟩)
    (hs : Region.noSelect ops = true) (hf : Region.free .any ops (lst ops.size ds) i = true) (hr : (Region.ready .any ops (lst ops.size ds)).contains i = true) (hj : gdst ops j = some t) (hb : look e t = some (.bool b)) (hne : (b == want) = false)
    (hd : Nat.blt d N = true) (hQ : ∀ c (a : Act) w, Q (.panic c) (a.put (some d) undef) w → Q (.panic c) a w) (hS : isLoad ⟨some d, op, ty, pos, after, some (j, want)⟩ = true → S w)
    (h : AL P N ops Q S fuel (i :: ds) ((d, undef) :: e) w) : AL P N ops Q S (fuel + 1) ds e w := fun a ha =>
  wpT_first hi (Region.noSelect_spec hs) hQ fuel _ a w (Region.free_spec hi hf) (by simpa using hr) (.inr ⟨by rw [wanted_of rfl hj hb ha, hne], rfl⟩) hS (h _ (ha.put (blt_lt hd) undef))

theorem al_gundef {i d fuel j : Nat} {t : Tmp} {want : Bool} {ds : List Nat} {op : Op} {ty : TypeId} {pos : String} {after : Array Edge} (hi : ops[i]? = some ⟨some d, op, ty, pos, after, some (j, want)⟩)
    (hs : Region.noSelect ops = true) (hf : Region.free .any ops (lst ops.size ds) i = true) (hr : (Region.ready .any ops (lst ops.size ds)).contains i = true) (hj : gdst ops j = some t) (hb : look e t = some undef)
    (hd : Nat.blt d N = true) (hQ : ∀ c (a : Act) w, Q (.panic c) (a.put (some d) undef) w → Q (.panic c) a w) (hS : isLoad ⟨some d, op, ty, pos, after, some (j, want)⟩ = true → S w)
    (h : AL P N ops Q S fuel (i :: ds) ((d, undef) :: e) w) : AL P N ops Q S (fuel + 1) ds e w := fun a ha =>
  wpT_first hi (Region.noSelect_spec hs) hQ fuel _ a w (Region.free_spec hi hf) (by simpa using hr) (.inr ⟨by rw [wanted_undef rfl hj hb ha], rfl⟩) hS (h _ (ha.put (blt_lt hd) undef))

theorem wpOp_of_opk {i d : Nat} {op : Op} {ty : TypeId} {pos : String} {after : Array Edge} {R : Value → World → Prop} {K : Act → World → Prop} (hi : ops[i]? = some ⟨some d, op, ty, pos, after, none⟩) (ha : Kn N e a) (hk : OpK P N e w ⟨some d, op, ty, pos, after, none⟩ R)
    (h : ∀ v w', R v w' → K (a.put (some d) v) w') : wpOp P ops Q i K a w := by
  unfold wpOp
  simp only [hi]
  rw [if_pos (show Region.wanted _ _ = true from rfl)]
  exact .inl (hk a ha K Q h)
theorem wpOp_of_opk0 {i : Nat} {op : Op} {ty : TypeId} {pos : String} {after : Array Edge} {R : Value → World → Prop} {K : Act → World → Prop} (hi : ops[i]? = some ⟨none, op, ty, pos, after, none⟩) (ha : Kn N e a) (hk : OpK P N e w ⟨none, op, ty, pos, after, none⟩ R)
    (h : ∀ v w', R v w' → K a w') : wpOp P ops Q i K a w := by
  unfold wpOp
  simp only [hi]
  rw [if_pos (show Region.wanted _ _ = true from rfl)]
  exact .inl (hk a ha K Q h)
theorem al_step {i d fuel : Nat} {ds : List Nat} {op : Op} {ty : TypeId} {pos : String} {after : Array Edge} {R : Value → World → Prop} (hi : ops[i]? = some ⟨some d, op, ty, pos, after, none⟩)
    (hr : Region.ready .any ops (lst ops.size ds) = [i]) (hd : Nat.blt d N = true) (hk : OpK P N e w ⟨some d, op, ty, pos, after, none⟩ R)
    (h : ∀ v w', R v w' → (need ops i = true → S w → S w') ∧ AL P N ops Q S fuel (i :: ds) ((d, v) :: e) w') : AL P N ops Q S (fuel + 1) ds e w := fun a ha =>
  ⟨fun h0 => (by rw [hr] at h0; cases h0), fun j hj => (by
    rw [hr] at hj
    obtain rfl : j = i := by simpa using hj
    exact wpOp_of_opk hi ha hk fun v w' hR => ⟨(h v w' hR).1, (h v w' hR).2 _ (ha.put (blt_lt hd) v)⟩)⟩
theorem wpOp_of_opkg {i d j : Nat} {t : Tmp} {want : Bool} {op : Op} {ty : TypeId} {pos : String} {after : Array Edge} {R : Value → World → Prop} {K : Act → World → Prop} (hi : ops[i]? = some ⟨some d, op, ty, pos, after, some (j, want)⟩) (hj : gdst ops j = some t) (hb : look e t = some (.bool want)) (ha : Kn N e a) (hk : OpK P N e w ⟨some d, op, ty, pos, after, some (j, want)⟩ R)
    (h : ∀ v w', R v w' → K (a.put (some d) v) w') : wpOp P ops Q i K a w := by
  unfold wpOp
  simp only [hi]
  rw [if_pos (by rw [wanted_of rfl hj hb ha]; simp)]
  exact .inl (hk a ha K Q h)
theorem al_gstep {i d fuel j : Nat} {t : Tmp} {want : Bool} {ds : List Nat} {op : Op} {ty : TypeId} {pos : String} {after : Array Edge} {R : Value → World → Prop} (hi : ops[i]? = some ⟨some d, op, ty, pos, after, some (j, want)⟩)
    (hr : Region.ready .any ops (lst ops.size ds) = [i]) (hj : gdst ops j = some t) (hb : look e t = some (.bool want)) (hd : Nat.blt d N = true) (hk : OpK P N e w ⟨some d, op, ty, pos, after, some (j, want)⟩ R)
    (h : ∀ v w', R v w' → (need ops i = true → S w → S w') ∧ AL P N ops Q S fuel (i :: ds) ((d, v) :: e) w') : AL P N ops Q S (fuel + 1) ds e w := fun a ha =>
  ⟨fun h0 => (by rw [hr] at h0; cases h0), fun k hk' => (by
    rw [hr] at hk'
    obtain rfl : k = i := by simpa using hk'
    exact wpOp_of_opkg hi hj hb ha hk fun v w' hR => ⟨(h v w' hR).1, (h v w' hR).2 _ (ha.put (blt_lt hd) v)⟩)⟩
theorem al_step0 {i fuel : Nat} {ds : List Nat} {op : Op} {ty : TypeId} {pos : String} {after : Array Edge} {R : Value → World → Prop} (hi : ops[i]? = some ⟨none, op, ty, pos, after, none⟩)
    (hr : Region.ready .any ops (lst ops.size ds) = [i]) (hk : OpK P N e w ⟨none, op, ty, pos, after, none⟩ R)
    (h : ∀ v w', R v w' → (need ops i = true → S w → S w') ∧ AL P N ops Q S fuel (i :: ds) e w') : AL P N ops Q S (fuel + 1) ds e w := fun a ha =>
  ⟨fun h0 => (by rw [hr] at h0; cases h0), fun j hj => (by
    rw [hr] at hj
    obtain rfl : j = i := by simpa using hj
    exact wpOp_of_opk0 hi ha hk fun v w' hR => ⟨(h v w' hR).1, (h v w' hR).2 _ ha⟩)⟩
/-- Two may come up: either may be first. -/
theorem al_two {i j fuel : Nat} {ds : List Nat} (hr : Region.ready .any ops (lst ops.size ds) = [i, j])
    (h1 : ∀ a, Kn N e a → wpOp P ops Q i (fun a' w' => (need ops i = true → S w → S w') ∧ wpT P ops Q S fuel (lst ops.size (i :: ds)) a' w') a w)
    (h2 : ∀ a, Kn N e a → wpOp P ops Q j (fun a' w' => (need ops j = true → S w → S w') ∧ wpT P ops Q S fuel (lst ops.size (j :: ds)) a' w') a w) : AL P N ops Q S (fuel + 1) ds e w := fun a ha =>
  ⟨fun h0 => (by rw [hr] at h0; cases h0), fun k hk => (by
    rw [hr] at hk
    have : k = i ∨ k = j := by simpa using hk
    rcases this with rfl | rfl
    · exact h1 a ha
    · exact h2 a ha)⟩
theorem al_split {fuel d : Nat} {ds : List Nat} {b : Bool} (ht : b = true → AL P N ops Q S fuel ds ((d, .bool true) :: e) w) (hf : b = false → AL P N ops Q S fuel ds ((d, .bool false) :: e) w) : AL P N ops Q S fuel ds ((d, .bool b) :: e) w := by
  cases b
  · exact hf rfl
  · exact ht rfl
end
/-! ### Short names -/
theorem dqT {p : Prop} [Decidable p] : (decide p = true) = p := decide_eq_true_eq
theorem dqF {p : Prop} {_ : Decidable p} : decide p = false ↔ ¬p := decide_eq_false_iff_not
theorem dq1 (b : Bool) : ((!b) = true) = (b = false) := Bool.not_eq_true' b
theorem dq2 (b : Bool) : ((!b) = false) = (b = true) := Bool.not_eq_false' b
theorem dq3 {a b : Bool} : (!a) = b ↔ a = !b := Bool.not_eq_eq_eq_not
theorem dq4 : (!true) = false := rfl
theorem dq5 : (!false) = true := rfl
theorem bkA {α : Type} {i : Nat} {a : α} {l : List α} : (a :: l).take (i + 1) = a :: l.take i := List.take_succ_cons
theorem bkB {α : Type} {l : List α} : l.take 0 = [] := List.take_zero
theorem bkC {α : Type} {a b : α} {l : List α} : a ∈ b :: l ↔ a = b ∨ a ∈ l := List.mem_cons
theorem bkD {α : Type} (a : α) : ¬ a ∈ ([] : List α) := List.not_mem_nil
theorem bkE (p : Prop) : (p ∨ False) = p := or_false p
end Go.Proofs.Ytnmkffkalnkbbaa.K
