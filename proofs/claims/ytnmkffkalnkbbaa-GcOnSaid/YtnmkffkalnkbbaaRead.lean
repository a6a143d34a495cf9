/-
  The kit's fourth text: slices as lists; contracts and calls; append; what is handed on to the ghost heap.
  It speaks of any program. No condition.
-/
import Derived.Test.YtnmkffkalnkbbaaOps
namespace Go.Proofs.Ytnmkffkalnkbbaa.K
open Go Go.RowKit

/-! ### Slices as lists -/
abbrev ER (α : Type) := GH → List Value → α → Prop
def EMono {α : Type} (E : ER α) : Prop := ∀ G G' cs x, Le G G' → E G cs x → E G' cs x

def RSl {α : Type} (sz : Nat) (E : ER α) (G : GH) (v : Value) (xs : List α) : Prop := ∃ oa c, v = .slice oa xs.length c ∧ xs.length ≤ c ∧ c ≤ maxLen ∧
  ∀ (i : Nat) (x : α), xs[i]? = some x → oa.isSome = true ∧ ∃ cs : List Value, cs.length = sz ∧ E G cs x ∧ ∀ (k : Nat) (u : Value), cs[k]? = some u → gcell G (elA oa (i * sz + k)) = some u

section
variable {α : Type} {sz : Nat} {E : ER α} {G G' : GH} {v : Value} {xs : List α}
theorem RSl.elim (h : RSl sz E G v xs) : ∃ oa c, v = .slice oa xs.length c ∧ xs.length ≤ c ∧ c ≤ maxLen := by
  obtain ⟨oa, c, h1, h2, h3, _⟩ := h
  exact ⟨oa, c, h1, h2, h3⟩
theorem RSl.elimN (h : RSl sz E G v xs) {n : Nat} (hn : xs.length = n) : ∃ oa c, v = .slice oa n c ∧ n ≤ c ∧ c ≤ maxLen := by
  subst hn
  exact h.elim
theorem RSl.mono (h : RSl sz E G v xs) (hE : EMono E) (hl : Le G G') : RSl sz E G' v xs := by
  obtain ⟨oa, c, h1, h2, h3, h4⟩ := h
  refine ⟨oa, c, h1, h2, h3, fun i x hx => ?_⟩
  obtain ⟨h5, cs, h6, h7, h8⟩ := h4 i x hx
  exact ⟨h5, cs, h6, hE _ _ _ _ hl h7, fun k u hu => hl.cell (h8 k u hu)⟩
theorem RSl.at_ {oa : Option Addr} {n c : Nat} (h : RSl sz E G (.slice oa n c) xs) {i : Nat} {x : α} (hx : xs[i]? = some x) : oa.isSome = true ∧ ∃ cs : List Value, cs.length = sz ∧ E G cs x ∧ ∀ (k : Nat) (u : Value), cs[k]? = some u → gcell G (elA oa (i * sz + k)) = some u := by
  obtain ⟨oa', c', h1, h2, h3, h4⟩ := h
  cases h1
  exact h4 i x hx
theorem RSl.len {oa : Option Addr} {n c : Nat} (h : RSl sz E G (.slice oa n c) xs) : n = xs.length ∧ n ≤ c ∧ c ≤ maxLen := by
  obtain ⟨oa', c', h1, h2, h3, h4⟩ := h
  cases h1
  exact ⟨rfl, h2, h3⟩
theorem RSl.le (h : RSl sz E G v xs) : xs.length ≤ 9223372036854775807 := by
  obtain ⟨_, _, _, h2, h3, _⟩ := h
  unfold maxLen at h3
  omega
theorem RSl.one (h : RSl sz E G v xs) : v.oneCell' = true := by
  obtain ⟨_, _, rfl, _⟩ := h
  rfl
theorem RSl.nil (G : GH) : RSl sz E G (.slice none 0 0) ([] : List α) := ⟨none, 0, rfl, Nat.le_refl _, Nat.zero_le _, fun i x hx => by simp at hx⟩
/-- A slice of a slice. -/
theorem RSl.cut {oa : Option Addr} {n c : Nat} (h : RSl sz E G (.slice oa n c) xs) {lo hi : Nat} (h1 : lo ≤ hi) (h2 : hi ≤ n) :
    RSl sz E G (.slice (if c = lo then oa else oa.map (·.add (lo * sz))) (hi - lo) (c - lo)) ((xs.take hi).drop lo) := by
  obtain ⟨hn, hc, hm⟩ := h.len
  refine ⟨if c = lo then oa else oa.map (·.add (lo * sz)), c - lo, ?_, ?_, by omega, fun i x hx => ?_⟩
  · have : ((xs.take hi).drop lo).length = hi - lo := by simp; omega
    rw [this]
  · simp; omega
  · rw [List.getElem?_drop, List.getElem?_take] at hx
    split at hx
    · rename_i hlt
      obtain ⟨h3, cs, h4, h5, h6⟩ := h.at_ hx
      rw [if_neg (by omega)]
      cases oa with
      | none => cases h3
      | some a =>
        refine ⟨rfl, cs, h4, h5, fun k u hu => ?_⟩
        have := h6 k u hu
        simp only [Option.map_some, elA_some] at this ⊢
        rw [add_add']
        rw [show lo * sz + (i * sz + k) = (lo + i) * sz + k from by rw [Nat.add_mul]; omega]
        exact this
    · cases hx

/-- What a row of cells holds: elements of sz cells each. -/
def Rows (sz : Nat) (E : ER α) (G : GH) (us : List Value) (xs : List α) : Prop := us.length = xs.length * sz ∧ ∀ (i : Nat) (x : α), xs[i]? = some x → E G ((us.drop (i * sz)).take sz) x
theorem RSl.of_cells {oa : Option Addr} {n c : Nat} {us : List Value} (hn : n = xs.length) (hc : n ≤ c) (hm : c ≤ maxLen) (hr : Rows sz E G us xs) (hsz : 0 < sz) (hcell : ∀ (k : Nat) (u : Value), us[k]? = some u → oa.isSome = true ∧ gcell G (elA oa k) = some u) : RSl sz E G (.slice oa n c) xs := by
  subst hn
  refine ⟨oa, c, rfl, hc, hm, fun i x hx => ?_⟩
  have hi : i < xs.length := (List.getElem?_eq_some_iff.1 hx).1
  have hle : (i + 1) * sz ≤ us.length := by rw [hr.1]; exact Nat.mul_le_mul_right _ hi
  rw [Nat.add_mul, Nat.one_mul] at hle
  refine ⟨?_, _, ?_, hr.2 i x hx, fun k u hu => ?_⟩
  · exact (hcell (i * sz) _ (List.getElem?_eq_getElem (by omega))).1
  · simp; omega
  · rw [List.getElem?_take] at hu
    split at hu
    · rw [List.getElem?_drop] at hu
      exact (hcell _ u hu).2
    · cases hu
theorem Rows.mono {us : List Value} (h : Rows sz E G us xs) (hE : EMono E) (hl : Le G G') : Rows sz E G' us xs := ⟨h.1, fun i x hx => hE _ _ _ _ hl (h.2 i x hx)⟩
theorem Rows.snoc {us cs : List Value} {x : α} (h : Rows sz E G us xs) (hc : cs.length = sz) (hx : E G cs x) : Rows sz E G (us ++ cs) (xs ++ [x]) := by
  refine ⟨by simp [h.1, hc, Nat.add_mul], fun i y hy => ?_⟩
  by_cases hi : i < xs.length
  · rw [List.getElem?_append_left hi] at hy
    have hle : (i + 1) * sz ≤ us.length := by rw [h.1]; exact Nat.mul_le_mul_right _ hi
    rw [Nat.add_mul, Nat.one_mul] at hle
    have := h.2 i y hy
    rw [List.drop_append_of_le_length (by omega), List.take_append_of_le_length (by simp; omega)]
    exact this
  · have hlen : i < (xs ++ [x]).length := (List.getElem?_eq_some_iff.1 hy).1
    simp at hlen
    have : i = xs.length := by omega
    subst this
    simp at hy
    subst hy
    have hd : (us ++ cs).drop (xs.length * sz) = cs := by rw [← h.1]; simp
    rw [hd, List.take_of_length_le (by omega)]
    exact hx
theorem Rows.nil (G : GH) : Rows sz E G [] ([] : List α) := ⟨by simp, fun i x hx => by simp at hx⟩
/-- Elements of one cell each. -/
theorem Rows.of_map {f : α → Value} (hE : ∀ x ∈ xs, E G [f x] x) : Rows 1 E G (xs.map f) xs := by
  refine ⟨by simp, fun i x hx => ?_⟩
  have : ((xs.map f).drop (i * 1)).take 1 = [f x] := by
    rw [Nat.mul_one, ← List.map_drop, ← List.map_take]
    have hi : i < xs.length := (List.getElem?_eq_some_iff.1 hx).1
    rw [List.drop_eq_getElem_cons hi]
    have : xs[i] = x := by rw [List.getElem?_eq_getElem hi] at hx; exact Option.some.inj hx
    simp [this]
  rw [this]
  exact hE x (List.mem_of_getElem? hx)
theorem Rows.app {us vs : List Value} {ys : List α} (h : Rows sz E G us xs) (h' : Rows sz E G vs ys) : Rows sz E G (us ++ vs) (xs ++ ys) := by
  refine ⟨by simp [h.1, h'.1, Nat.add_mul], fun i y hy => ?_⟩
  by_cases hi : i < xs.length
  · rw [List.getElem?_append_left hi] at hy
    have hle : (i + 1) * sz ≤ us.length := by rw [h.1]; exact Nat.mul_le_mul_right _ hi
    rw [Nat.add_mul, Nat.one_mul] at hle
    have := h.2 i y hy
    rw [List.drop_append_of_le_length (by omega), List.take_append_of_le_length (by simp; omega)]
    exact this
  · rw [List.getElem?_append_right (by omega)] at hy
    have := h'.2 _ y hy
    have hd : (us ++ vs).drop (i * sz) = vs.drop ((i - xs.length) * sz) := by
      rw [List.drop_append, List.drop_eq_nil_of_le (by rw [h.1]; exact Nat.mul_le_mul_right _ (by omega)), h.1, ← Nat.sub_mul]
      simp
    rw [hd]
    exact this
end

/-- The readers of elements. -/
def EInt : ER Int := fun _ cs n => cs = [.int .i64 n] ∧ -9223372036854775808 ≤ n ∧ n ≤ 9223372036854775807
def EBool : ER Bool := fun _ cs b => cs = [.bool b]
theorem EInt.mono : EMono EInt := fun _ _ _ _ _ h => h
theorem EBool.mono : EMono EBool := fun _ _ _ _ _ h => h
/-- A slice in a cell. -/
def ESl {α : Type} (sz : Nat) (E : ER α) : ER (List α) := fun G cs xs => ∃ v, cs = [v] ∧ RSl sz E G v xs
theorem ESl.mono {α : Type} {sz : Nat} {E : ER α} (hE : EMono E) : EMono (ESl sz E) := fun _ _ _ _ hl ⟨v, h1, h2⟩ => ⟨v, h1, h2.mono hE hl⟩

/-! ### Contracts -/
/-- It hands back v; what was there is as it was. -/
def Sc (w : World) (v : Value) : Ending → World → Prop := fun en w' => en = .returned v ∧ Below w.heap.size w w'
/-- What it hands back reads as R says; of what was there it shares what Ga tells of. -/
def Rt (Ga : GH) (w : World) (R : GH → Value → Prop) : Ending → World → Prop := fun en w' => ∃ v G', en = .returned v ∧ Below w.heap.size w w' ∧ Holds G' w' ∧ (∀ b, b < w.heap.size → G' b = none ∨ G' b = Ga b) ∧ R G' v

variable {P : Program} {N : Nat} {e : Env} {w w' : World} {d : Option Tmp} {ty : TypeId} {pos : String} {after : Array Edge} {g : Option (Nat × Bool)}
variable {G0 G : GH} {w0 : World} {M : List Ent}

theorem SS.sc (h : SS G0 w0 G M w) (v : Value) : Sc w0 v (.returned v) w := ⟨rfl, h.below⟩
theorem SS.rt {R : GH → Value → Prop} (h : SS G0 w0 G M w) (v : Value) (hR : R G v) : Rt G0 w0 R (.returned v) w := ⟨v, G, rfl, h.below, h.hold, fun b hb => .inr (h.old b hb), hR⟩

theorem SS.joined {Ga G' : GH} (h : SS G0 w0 G M w) (hb : Below w.heap.size w w') (hG : Holds G' w') (hs : ∀ b, b < w.heap.size → G' b = none ∨ G' b = Ga b) (hGa : ∀ b, Ga b = none ∨ Ga b = G b) : SS G0 w0 (joinG G G') M w' := by
  have h1 := h.kept hb
  have none_of : ∀ b, b < w.heap.size → G b = none → joinG G G' b = none := fun b hlt hg => by
    unfold joinG
    rw [hg]
    rcases hs b hlt with hh | hh
    · exact hh
    · rcases hGa b with hk | hk
      · exact hh.trans hk
      · exact (hh.trans hk).trans hg
  refine ⟨h1.below, h1.le.trans (joinG_left _ _), fun b hlt => ?_, h1.hold.join hG, h1.own, h1.sep, fun x hx b hxb => ⟨?_, (h1.new x hx b hxb).2⟩⟩
  · cases hg : G b with
    | none => rw [none_of b (Nat.lt_of_lt_of_le hlt h.below.size) hg, ← h.old b hlt, hg]
    | some o => rw [joinG_left G G' b o hg, ← h.old b hlt, hg]
  · exact none_of b (Ent.lt (h.own x hx) hxb) (h.new x hx b hxb).1

/-! ### Calls -/
theorem run_call {f : FuncId} {xs : List Operand} {vs : List Value} {ts : Array TypeId} (hcf : CF P f) (hx : evL e xs = some vs) {a : Act} (ha : Kn N e a) : (execOp a.eval ⟨d, .call ⟨.value (.func f), xs.toArray, ts⟩, ty, pos, after, g⟩).run P w = .ok (.enter f vs.toArray) w := by
  rw [execOp_call_go]
  have := ha.evL hx
  simp [this]
  exact hcf _ _
theorem run_callv {f : FuncId} {x : Operand} {fs cs : List Value} {xs : List Operand} {vs : List Value} {ts : Array TypeId} (hcf : CF P f) (hf : ev e x = some (.func (.func f) fs.toArray cs.toArray)) (hx : evL e xs = some vs) {a : Act} (ha : Kn N e a) :
    (execOp a.eval ⟨d, .call ⟨.value x, xs.toArray, ts⟩, ty, pos, after, g⟩).run P w = .ok (.enter f (fs ++ vs ++ cs).toArray) w := by
  have h1 := ha.evL hx
  have h2 := ha.ev hf
  simp [execOp, resolve, Deferred.ofValue, invoke, h1, h2]
  have := hcf (fs ++ (vs ++ cs)).toArray w
  simpa using this
theorem op_call {R : Value → World → Prop} {f : FuncId} {xs : List Operand} {vs : List Value} {ts : Array TypeId} (hcf : CF P f) (hx : evL e xs = some vs) (hc : Calls P f vs.toArray w (fun en w' => ∃ v, en = .returned v ∧ R v w')) : OpK P N e w ⟨d, .call ⟨.value (.func f), xs.toArray, ts⟩, ty, pos, after, g⟩ R :=
  opk_enter (fun _ ha => run_call hcf hx ha) hc fun _ _ h => h
theorem op_callv {R : Value → World → Prop} {f : FuncId} {x : Operand} {fs cs : List Value} {xs : List Operand} {vs : List Value} {ts : Array TypeId} (hcf : CF P f) (hf : ev e x = some (.func (.func f) fs.toArray cs.toArray)) (hx : evL e xs = some vs) (hc : Calls P f (fs ++ vs ++ cs).toArray w (fun en w' => ∃ v, en = .returned v ∧ R v w')) : OpK P N e w ⟨d, .call ⟨.value x, xs.toArray, ts⟩, ty, pos, after, g⟩ R :=
  opk_enter (fun _ ha => run_callv hcf hf hx ha) hc fun _ _ h => h
theorem op_call_sc {f : FuncId} {xs : List Operand} {vs : List Value} {v : Value} {ts : Array TypeId} (hS : SS G0 w0 G M w) (hcf : CF P f) (hx : evL e xs = some vs) (hc : Calls P f vs.toArray w (Sc w v)) : OpK P N e w ⟨d, .call ⟨.value (.func f), xs.toArray, ts⟩, ty, pos, after, g⟩ (fun u w' => u = v ∧ SS G0 w0 G M w') :=
  op_call hcf hx (hc.mono fun _ _ ⟨h1, h2⟩ => ⟨v, h1, rfl, hS.kept h2⟩)
theorem op_callv_sc {f : FuncId} {x : Operand} {fs cs : List Value} {xs : List Operand} {vs : List Value} {v : Value} {ts : Array TypeId} (hS : SS G0 w0 G M w) (hcf : CF P f) (hf : ev e x = some (.func (.func f) fs.toArray cs.toArray)) (hx : evL e xs = some vs) (hc : Calls P f (fs ++ vs ++ cs).toArray w (Sc w v)) : OpK P N e w ⟨d, .call ⟨.value x, xs.toArray, ts⟩, ty, pos, after, g⟩ (fun u w' => u = v ∧ SS G0 w0 G M w') :=
  op_callv hcf hf hx (hc.mono fun _ _ ⟨h1, h2⟩ => ⟨v, h1, rfl, hS.kept h2⟩)
theorem op_call_rt {Ga : GH} {R : GH → Value → Prop} {f : FuncId} {xs : List Operand} {vs : List Value} {ts : Array TypeId} (hS : SS G0 w0 G M w) (hcf : CF P f) (hx : evL e xs = some vs) (hGa : ∀ b, Ga b = none ∨ Ga b = G b) (hm : ∀ G1 G2 v, Le G1 G2 → R G1 v → R G2 v) (hc : Calls P f vs.toArray w (Rt Ga w R)) :
    OpK P N e w ⟨d, .call ⟨.value (.func f), xs.toArray, ts⟩, ty, pos, after, g⟩ (fun u w' => ∃ G', Le G G' ∧ R G' u ∧ SS G0 w0 G' M w') :=
  op_call hcf hx (hc.mono fun _ _ ⟨v, G', h1, h2, h3, h4, h5⟩ => ⟨v, h1, joinG G G', joinG_left _ _, hm _ _ _ (joinG_right (hS.hold.below h2) h3) h5, hS.joined h2 h3 h4 hGa⟩)

/-- Nothing that was there is shared: the result, by itself. -/
theorem op_call_fr {R : GH → Value → Prop} {f : FuncId} {xs : List Operand} {vs : List Value} {ts : Array TypeId} (hS : SS G0 w0 G M w) (hcf : CF P f) (hx : evL e xs = some vs) (hc : Calls P f vs.toArray w (Rt noG w R)) :
    OpK P N e w ⟨d, .call ⟨.value (.func f), xs.toArray, ts⟩, ty, pos, after, g⟩ (fun u w' => ∃ F G', R F u ∧ (∀ b, b < w0.heap.size → F b = none) ∧ Le F G' ∧ Le G G' ∧ SS G0 w0 G' M w') :=
  op_call hcf hx (hc.mono fun _ _ ⟨v, F, h1, h2, h3, h4, h5⟩ => ⟨v, h1, F, joinG G F, h5, fun b hb => (h4 b (Nat.lt_of_lt_of_le hb hS.below.size)).elim id (fun hh => hh), joinG_right (hS.hold.below h2) h3, joinG_left _ _, hS.joined h2 h3 h4 fun _ => .inl rfl⟩)
theorem SS.rt_fr {R : GH → Value → Prop} {F : GH} {v : Value} (h : SS G0 w0 G M w) (hl : Le F G) (hF : ∀ b, b < w0.heap.size → F b = none) (hR : R F v) : Rt noG w0 R (.returned v) w := ⟨v, F, rfl, h.below, h.hold.mono hl, fun b hb => .inl (hF b hb), hR⟩

theorem op_callu {R : World → Prop} {f : FuncId} {xs : List Operand} {vs : List Value} {v : Value} {ts : Array TypeId} (hcf : CF P f) (hx : evL e xs = some vs) (hc : Calls P f vs.toArray w (fun en w' => en = .returned v ∧ R w')) : OpK P N e w ⟨d, .call ⟨.value (.func f), xs.toArray, ts⟩, ty, pos, after, g⟩ (fun u w' => u = v ∧ R w') :=
  op_call hcf hx (hc.mono fun _ _ ⟨h1, h2⟩ => ⟨v, h1, rfl, h2⟩)
theorem op_callvu {R : World → Prop} {f : FuncId} {x : Operand} {fs cs : List Value} {xs : List Operand} {vs : List Value} {v : Value} {ts : Array TypeId} (hcf : CF P f) (hf : ev e x = some (.func (.func f) fs.toArray cs.toArray)) (hx : evL e xs = some vs) (hc : Calls P f (fs ++ vs ++ cs).toArray w (fun en w' => en = .returned v ∧ R w')) : OpK P N e w ⟨d, .call ⟨.value x, xs.toArray, ts⟩, ty, pos, after, g⟩ (fun u w' => u = v ∧ R w') :=
  op_callv hcf hf hx (hc.mono fun _ _ ⟨h1, h2⟩ => ⟨v, h1, rfl, h2⟩)

/-! ### What is handed on to the ghost heap -/
def oneG (w : World) (ob : Option Nat) : GH := fun b => if ob = some b then w.heap[b]? else none
theorem oneG_holds (w : World) (ob : Option Nat) : Holds (oneG w ob) w := fun b o h => by
  unfold oneG at h
  split at h
  · exact h
  · cases h
theorem SS.pub (pre : List Ent) {x : Ent} (h : SS G0 w0 G (pre ++ x :: M) w) : SS G0 w0 (joinG G (oneG w x.fp)) (pre ++ M) w := by
  have h1 := h.drop pre
  have hx : x ∈ pre ++ x :: M := by simp
  have hi : (pre ++ x :: M)[pre.length]? = some x := by simp
  have other : ∀ b, x.fp ≠ some b → joinG G (oneG w x.fp) b = G b := fun b hb => by
    unfold joinG
    cases hg : G b with
    | none => simp [oneG, hb]
    | some o => rfl
  refine ⟨h1.below, h1.le.trans (joinG_left _ _), fun b hlt => ?_, h1.hold.join (oneG_holds _ _), h1.own, h1.sep, fun y hy b hyb => ?_⟩
  · rw [other b (fun hb => by have := (h.new x hx b hb).2; omega)]
    exact h.old b hlt
  · rw [other b (fun hb => ?_)]
    · exact h1.new y hy b hyb
    · obtain ⟨j, hj⟩ := List.getElem?_of_mem hy
      by_cases hlt : j < pre.length
      · rw [List.getElem?_append_left hlt] at hj
        have := h.sep pre.length j x y b hi (by rw [List.getElem?_append_left hlt]; exact hj) hb hyb
        omega
      · rw [List.getElem?_append_right (by omega)] at hj
        have := h.sep pre.length (j + 1) x y b hi (by rw [List.getElem?_append_right (by omega), show j + 1 - pre.length = (j - pre.length) + 1 from by omega]; simpa using hj) hb hyb
        omega
theorem RowIn.full {oa : Option Addr} {n c : Nat} {T : TypeId} {sz : Nat} {xs : List Value} (h : RowIn w oa n c T sz xs) {G' : GH} (hG : ∀ b, oa.map (·.block) = some b → G' b = w.heap[b]?) : ∀ (k : Nat) (u : Value), xs[k]? = some u → oa.isSome = true ∧ gcell G' (elA oa k) = some u := fun k u hu => by
  obtain ⟨h1, h2⟩ := RowIn.cell h hu
  refine ⟨h1, ?_⟩
  cases oa with
  | none => cases h1
  | some a =>
    have hb := hG a.block rfl
    have : (elA (some a) k).block = a.block := by
      rw [elA_some]; unfold Addr.add; split <;> rfl
    unfold gcell
    rw [this, hb]
    have h3 := h2
    unfold World.cell? at h3
    rw [this] at h3
    exact h3
theorem SS.pub_cells (pre : List Ent) {oa : Option Addr} {n c : Nat} {T : TypeId} {sz : Nat} {xs : List Value} (h : SS G0 w0 G (pre ++ .row oa n c T sz xs :: M) w) :
    ∀ (k : Nat) (u : Value), xs[k]? = some u → oa.isSome = true ∧ K.gcell (joinG G (oneG w (Ent.row oa n c T sz xs).fp)) (elA oa k) = some u := by
  have hx : Ent.row oa n c T sz xs ∈ pre ++ Ent.row oa n c T sz xs :: M := by simp
  refine RowIn.full (h.own _ hx) fun b hb => ?_
  have hfp : (Ent.row oa n c T sz xs).fp = some b := hb
  have := (h.new _ hx b hfp).1
  unfold joinG
  rw [this]
  simp [oneG, hfp]
theorem SS.row_len (pre : List Ent) {oa : Option Addr} {n c : Nat} {T : TypeId} {sz : Nat} {xs : List Value} (h : SS G0 w0 G (pre ++ .row oa n c T sz xs :: M) w) : xs.length = n * sz ∧ n ≤ c ∧ c ≤ maxLen := by
  obtain ⟨h1, h2, h3, _⟩ : RowIn w oa n c T sz xs := h.own (.row oa n c T sz xs) (by simp)
  exact ⟨h1, h2, h3⟩
/-- A row of the call's own, handed on: it reads as a list. -/
theorem SS.give {α : Type} {E : ER α} {zs : List α} (pre : List Ent) {oa : Option Addr} {n c : Nat} {T : TypeId} {sz : Nat} {xs : List Value} (h : SS G0 w0 G (pre ++ .row oa n c T sz xs :: M) w) (hsz : 0 < sz) (hE : EMono E) (hr : Rows sz E G xs zs) (hn : n = zs.length) :
    ∃ G', Le G G' ∧ SS G0 w0 G' (pre ++ M) w ∧ RSl sz E G' (.slice oa n c) zs := by
  obtain ⟨h1, h2, h3⟩ := h.row_len pre
  exact ⟨_, joinG_left _ _, h.pub pre, .of_cells hn h2 h3 (hr.mono hE (joinG_left _ _)) hsz (h.pub_cells pre)⟩
/-- A row of the call's own, read where all is at rest. -/
theorem SS.lend {α : Type} {E : ER α} {zs : List α} (pre : List Ent) {oa : Option Addr} {n c : Nat} {T : TypeId} {sz : Nat} {xs : List Value} (h : SS G0 w0 G (pre ++ .row oa n c T sz xs :: M) w) (hsz : 0 < sz) (hE : EMono E) (hr : Rows sz E G xs zs) (hn : n = zs.length) : RSl sz E (fullG w) (.slice oa n c) zs := by
  obtain ⟨h1, h2, h3⟩ := h.row_len pre
  exact .of_cells hn h2 h3 (hr.mono hE h.hold.le_full) hsz (RowIn.full (h.own (.row oa n c T sz xs) (by simp)) fun b _ => rfl)
/-- A row of the call's own, handed back: nothing that was there is shared. -/
theorem SS.rt_row {α : Type} {E : ER α} {zs : List α} (pre : List Ent) {oa : Option Addr} {n c : Nat} {T : TypeId} {sz : Nat} {xs : List Value} (h : SS G0 w0 G (pre ++ .row oa n c T sz xs :: M) w) (hsz : 0 < sz) (hr : Rows sz E noG xs zs) (hE : EMono E) (hn : n = zs.length) :
    Rt noG w0 (fun G v => RSl sz E G v zs) (.returned (.slice oa n c)) w := by
  obtain ⟨h1, h2, h3⟩ := h.row_len pre
  have hx : Ent.row oa n c T sz xs ∈ pre ++ Ent.row oa n c T sz xs :: M := by simp
  refine ⟨_, oneG w (Ent.row oa n c T sz xs).fp, rfl, h.below, oneG_holds _ _, fun b hb => .inl ?_, .of_cells hn h2 h3 (hr.mono hE (fun b o hb => by cases hb)) hsz (RowIn.full (h.own _ hx) fun b hb => ?_)⟩
  · unfold oneG
    rw [if_neg]
    intro hfp
    have := (h.new _ hx b hfp).2
    omega
  · have hfp : (Ent.row oa n c T sz xs).fp = some b := hb
    simp [oneG, hfp]

/-! ### Append -/
theorem alloc_old (w : World) {o : Obj} (k : Nat) (h : k < w.heap.size) : (w.drew.alloc o).heap[k]? = w.heap[k]? := Go.heap_alloc_old w.drew o h
theorem run_append_row (t el : TypeId) (z : Value) (sz by_ : Nat) (ht : P.underlying t = some (.slice el)) (hz : TEl P el z sz by_) (hzs : z.cells.size = sz) {oa : Option Addr} {n c : Nat} {xs : List Value} (hr : RowIn w oa n c el sz xs)
    {ob : Option Addr} {m cb : Nat} {news : List Value} (hl : news.length = m * sz) (hsz : 0 < sz) (hnews : ∀ (k : Nat) (u : Value), news[k]? = some u → ob.isSome = true ∧ w.cell? (elA ob k) = some u) (h1 : ∀ u ∈ news, u.oneCell' = true) (hb : (n + m) * by_ ≤ 140737488355328) (h63 : n + m ≤ maxLen) (ty : TypeId) :
    ∃ oa' c' w', (Builtin.append_ #[t, t] ty #[.slice oa n c, .slice ob m cb]).run P w = .ok (.slice oa' (n + m) c') w' ∧ RowIn w' oa' (n + m) c' el sz (xs ++ news) ∧
      (∀ k, k < w.heap.size → oa.map (·.block) ≠ some k → w'.heap[k]? = w.heap[k]?) ∧ w.heap.size ≤ w'.heap.size ∧ w'.os = w.os ∧ w'.tape = w.tape ∧ w'.output = w.output ∧ (∀ b, oa'.map (·.block) = some b → oa.map (·.block) = some b ∨ w.heap.size ≤ b) := by
  obtain ⟨i, hi, hz0, hz1, hz2⟩ := info_parts hz
  subst hz1
  subst hz2
  have hr0 := hr
  obtain ⟨hx, hnc, hcm, hrow⟩ := hr
  have hsum : (xs ++ news).length = (n + m) * i.size := by rw [List.length_append, hx, hl, Nat.add_mul]
  have h63' : n + m ≤ 9223372036854775807 := by unfold maxLen at h63; omega
  by_cases hm : m = 0
  · subst hm
    have hnn : news = [] := List.eq_nil_of_length_eq_zero (by simpa using hl)
    subst hnn
    refine ⟨oa, c, w, ?_, by simpa using hr0, fun _ _ _ => rfl, Nat.le_refl _, rfl, rfl, rfl, fun b hb => .inl hb⟩
    have hfc : (Builtin.firstCells i.size 0 (.slice ob 0 cb)).run P w = .ok #[] w := by
      cases ob <;> simp [Builtin.firstCells, loadCells, loadCellsFrom]
    cases oa <;> simp [Builtin.append_, run_underlying ht, sizeOf, typeInfo, hi, Builtin.lenOf, hnc, hfc, storeCells]
  · have hnl : 0 < news.length := by rw [hl]; exact Nat.mul_pos (by omega) hsz
    have hob : ob.isSome = true := (hnews 0 _ (List.getElem?_eq_getElem hnl)).1
    cases ob with
    | none => cases hob
    | some b0 =>
      have hnews' : ∀ (j : Nat) (v : Value), news[j]? = some v → w.cell? (b0.add j) = some v := fun j v hv => (hnews j v hv).2
      have grown : ∀ (old : Nat), old < n + m →
          RowIn (w.drew.alloc (.cells (xs.toArray ++ news.toArray ++ Builtin.zeroCells z.cells (grownCap w (n + m) old el - (n + m))) el)) (some ⟨w.heap.size, 0, none⟩) (n + m) (grownCap w (n + m) old el) el i.size (xs ++ news) := fun old _ => by
        have hge := grownCap_ge w (n + m) old el
        have hcm' : grownCap w (n + m) old el ≤ maxLen := grownCap_le_maxLen w (n + m) old el h63
        refine ⟨hsum, hge, hcm', .inr ⟨w.heap.size, 0, _, rfl, heap_alloc_new w.drew _, ?_, fun j u hu => ?_⟩⟩
        · simp only [Array.size_append, List.size_toArray, size_zeroCells, hzs, hx, hl, ← Nat.add_mul]
          rw [Nat.zero_add, show n + m + (grownCap w (n + m) old el - (n + m)) = grownCap w (n + m) old el from by omega]
          exact Nat.le_refl _
        · have hj : j < (xs ++ news).length := (List.getElem?_eq_some_iff.1 hu).1
          rw [Nat.zero_add, Array.getElem?_append_left (by simpa using hj)]
          simpa using hu
      rcases hrow with ⟨rfl, rfl⟩ | ⟨g, off, cur, rfl, hg, hcs, hcell⟩
      · have hn0 : n = 0 := by omega
        subst hn0
        have hxs : xs = [] := List.eq_nil_of_length_eq_zero (by simpa using hx)
        subst hxs
        have hr := run_append_nil (P := P) w t ty el i z ht hi hz0 b0 m cb news hl hnews' (by omega) (by omega) (by simp only [Nat.zero_add] at hb; omega)
        have hgr := grown 0 (by omega)
        simp only [Nat.zero_add, List.nil_append, Array.empty_append] at hgr ⊢
        exact ⟨_, _, _, hr, hgr, fun k hk _ => K.alloc_old w k hk, by simp, rfl, rfl, rfl, fun b hb => .inr (by simp at hb; omega)⟩
      · by_cases hroom : n + m ≤ c
        · have hfit : off + n * i.size + 0 + news.length ≤ cur.size := by
            rw [hl]
            have : (n + m) * i.size ≤ c * i.size := Nat.mul_le_mul_right _ hroom
            rw [Nat.add_mul] at this
            omega
          have hf := run_firstCells_some (P := P) w i.size m b0 m cb news hl hnews'
          have hst := run_storeCells_at P g (off + n * i.size) el news 0 cur w hg hfit h1
          refine ⟨some ⟨g, off, none⟩, c, w.setRow g (cur.toList.take (off + n * i.size + 0) ++ news ++ cur.toList.drop (off + n * i.size + 0 + news.length)).toArray, ?_, ?_, ?_, ?_, rfl, rfl, rfl, fun b hb => .inl hb⟩
          · simp [Builtin.append_, run_underlying ht, sizeOf, typeInfo, hi, Builtin.lenOf, hroom, hf, Addr.add_lit]
            simp at hst
            simp [hst]
          · refine ⟨hsum, hroom, hcm, .inr ⟨g, off, _, rfl, setRow_heap w g cur _ el _ hg, ?_, fun j u hu => ?_⟩⟩
            · simp; omega
            · simp only [Nat.add_zero]
              rw [List.getElem?_toArray]
              by_cases hj : j < xs.length
              · rw [List.getElem?_append_left hj] at hu
                have hlt : off + j < off + n * i.size := by omega
                rw [List.append_assoc, List.getElem?_append_left (by simp; omega), List.getElem?_take, if_pos hlt]
                simpa using hcell j u hu
              · have hjl : j < (xs ++ news).length := (List.getElem?_eq_some_iff.1 hu).1
                rw [List.getElem?_append_right (by omega)] at hu
                have htk : (cur.toList.take (off + n * i.size)).length = off + n * i.size := by simp; omega
                rw [List.append_assoc, List.getElem?_append_right (by omega), htk, List.getElem?_append_left (by simp at hjl; omega)]
                rw [show off + j - (off + n * i.size) = j - xs.length from by omega]
                exact hu
          · intro k _ hk
            exact setRow_other w g k _ (fun hh => hk (by simp [hh]))
          · simp
        · have holds : ∀ (j : Nat) (u : Value), xs[j]? = some u → w.cell? ((⟨g, off, none⟩ : Addr).add j) = some u := fun j u hu => (RowIn.cell hr0 hu).2
          have hr := run_append_grow (P := P) w t ty el i z ht hi hz0 ⟨g, off, none⟩ n c xs hx holds b0 m cb news hl hnews' (by omega) (by omega) (growslice_fits (by omega) hb)
          exact ⟨_, _, _, hr, grown c (by omega), fun k hk _ => K.alloc_old w k hk, by simp, rfl, rfl, rfl, fun b hb => .inr (by simp at hb; omega)⟩
theorem op_append {t el : TypeId} {z : Value} {sz by_ j : Nat} {x y : Operand} {oa ob : Option Addr} {n c m cb : Nat} {xs news : List Value} {ts : Array TypeId} (hS : SS G0 w0 G M w) (ht : TSl P t el sz) (hz : TEl P el z sz by_) (hzs : z.cells.size = sz) (hts : ts = #[t, t]) (hj : M[j]? = some (.row oa n c el sz xs))
    (hx : ev e x = some (.slice oa n c)) (hy : ev e y = some (.slice ob m cb)) (hl : news.length = m * sz) (hsz : 0 < sz) (hnews : ∀ (k : Nat) (u : Value), news[k]? = some u → ob.isSome = true ∧ w.cell? (elA ob k) = some u) (h1 : ∀ u ∈ news, u.oneCell' = true) (hb : (n + m) * by_ ≤ 140737488355328) (h63 : n + m ≤ maxLen) :
    OpK P N e w ⟨d, .call ⟨.builtin .append, #[x, y], ts⟩, ty, pos, after, g⟩ (fun v w' => ∃ oa' c', v = .slice oa' (n + m) c' ∧ SS G0 w0 G (M.set j (.row oa' (n + m) c' el sz (xs ++ news))) w') :=
  opk_run fun a ha => by
    subst hts
    obtain ⟨oa', c', w', hr, h2, h3, h4, h5, h6, h7, h8⟩ := run_append_row (P := P) (w := w) t el z sz by_ ht.1 hz hzs (hS.own _ (List.mem_of_getElem? hj)) (ob := ob) (cb := cb) hl hsz hnews h1 hb h63 ty
    refine ⟨_, w', ?_, oa', c', rfl, hS.turn hj (fun k hk hne => h3 k hk hne) h4 h5 h6 h7 h2 (fun b hb => h8 b hb)⟩
    simp [execOp, resolve, invoke, builtin, ha.ev hx, ha.ev hy, hr]
/-- The cells of a row of the call's own, as what is appended. -/
theorem SS.news {j : Nat} {oa : Option Addr} {n c : Nat} {T : TypeId} {sz : Nat} {xs : List Value} (h : SS G0 w0 G M w) (hj : M[j]? = some (.row oa n c T sz xs)) : ∀ (k : Nat) (u : Value), xs[k]? = some u → oa.isSome = true ∧ w.cell? (elA oa k) = some u := fun _ _ hu => RowIn.cell (h.own _ (List.mem_of_getElem? hj)) hu

/-! ### A slice of a slice -/
theorem op_slice_l {t el : TypeId} {sz : Nat} {x lo : Operand} {oa : Option Addr} {n c : Nat} {k : IntKind} {l : Nat} (ht : TSl P t el sz) (hx : ev e x = some (.slice oa n c)) (hl : ev e lo = some (.int k l)) (h1 : l ≤ n) : OpP P N e ⟨d, .slice t x (some lo) none none, ty, pos, after, g⟩ (.slice (if c = l then oa else oa.map (·.add (l * sz))) (n - l) (c - l)) := fun a ha w => by
  obtain ⟨hu, i, hi, hs⟩ := ht
  simp [execOp, Instr.sliceAt, Instr.slice, Instr.sliceBounds, Instr.sliceBound, asIntOf, sizeOf, typeInfo, ha.ev hx, ha.ev hl, run_underlying hu, hi, hs, h1]
theorem op_slice_h {t el : TypeId} {sz : Nat} {x hi_ : Operand} {oa : Option Addr} {n c : Nat} {k : IntKind} {h : Nat} (ht : TSl P t el sz) (hx : ev e x = some (.slice oa n c)) (hh : ev e hi_ = some (.int k h)) (h2 : h ≤ c) : OpP P N e ⟨d, .slice t x none (some hi_) none, ty, pos, after, g⟩ (.slice (if c = 0 then oa else oa.map (·.add (0 * sz))) (h - 0) (c - 0)) := fun a ha w => by
  obtain ⟨hu, i, hi, hs⟩ := ht
  simp [execOp, Instr.sliceAt, Instr.slice, Instr.sliceBounds, Instr.sliceBound, asIntOf, sizeOf, typeInfo, ha.ev hx, ha.ev hh, run_underlying hu, hi, h2]
theorem op_slice_lh {t el : TypeId} {sz : Nat} {x lo hi_ : Operand} {oa : Option Addr} {n c : Nat} {k k' : IntKind} {l h : Nat} (ht : TSl P t el sz) (hx : ev e x = some (.slice oa n c)) (hl : ev e lo = some (.int k l)) (hh : ev e hi_ = some (.int k' h)) (h1 : l ≤ h) (h2 : h ≤ c) : OpP P N e ⟨d, .slice t x (some lo) (some hi_) none, ty, pos, after, g⟩ (.slice (if c = l then oa else oa.map (·.add (l * sz))) (h - l) (c - l)) := fun a ha w => by
  obtain ⟨hu, i, hi, hs⟩ := ht
  simp [execOp, Instr.sliceAt, Instr.slice, Instr.sliceBounds, Instr.sliceBound, asIntOf, sizeOf, typeInfo, ha.ev hx, ha.ev hl, ha.ev hh, run_underlying hu, hi, hs, h1, h2]

/-! ### The same blocks in another order; rows that are nil -/
theorem nodup_of_sep : ∀ {M : List Ent}, (∀ (i j : Nat) (x y : Ent) (b : Nat), M[i]? = some x → M[j]? = some y → x.fp = some b → y.fp = some b → i = j) → (M.filterMap Ent.fp).Nodup
  | [], _ => by simp
  | x :: M, h => by
    have hM := nodup_of_sep (M := M) (fun i j y z b hi hj hy hz => by
      have := h (i + 1) (j + 1) y z b (by simpa using hi) (by simpa using hj) hy hz
      omega)
    cases hx : x.fp with
    | none => simpa [List.filterMap_cons, hx] using hM
    | some b =>
      rw [List.filterMap_cons, hx]
      refine List.nodup_cons.2 ⟨fun hm => ?_, hM⟩
      obtain ⟨y, hy, hyb⟩ := List.mem_filterMap.1 hm
      obtain ⟨j, hj⟩ := List.getElem?_of_mem hy
      have := h 0 (j + 1) x y b (by simp) (by simpa using hj) hx hyb
      omega
theorem sep_of_nodup : ∀ {M : List Ent}, (M.filterMap Ent.fp).Nodup → ∀ (i j : Nat) (x y : Ent) (b : Nat), M[i]? = some x → M[j]? = some y → x.fp = some b → y.fp = some b → i = j
  | [], _, i, _, _, _, _, hi, _, _, _ => by simp at hi
  | z :: M, h, i, j, x, y, b, hi, hj, hx, hy => by
    have hM : (M.filterMap Ent.fp).Nodup := by
      rw [List.filterMap_cons] at h
      split at h
      · exact h
      · exact (List.nodup_cons.1 h).2
    have out : ∀ (u : Ent) (k : Nat), z.fp = some b → M[k]? = some u → u.fp = some b → False := fun u k hz hu hub => by
      rw [List.filterMap_cons, hz] at h
      exact (List.nodup_cons.1 h).1 (List.mem_filterMap.2 ⟨u, List.mem_of_getElem? hu, hub⟩)
    cases i with
    | zero =>
      obtain rfl : z = x := by simpa using hi
      cases j with
      | zero => rfl
      | succ j => exact (out y j hx (by simpa using hj) hy).elim
    | succ i =>
      cases j with
      | zero =>
        obtain rfl : z = y := by simpa using hj
        exact (out x i hy (by simpa using hi) hx).elim
      | succ j => rw [sep_of_nodup hM i j x y b (by simpa using hi) (by simpa using hj) hx hy]
theorem SS.perm {M' : List Ent} (h : SS G0 w0 G M w) (hp : M.Perm M') : SS G0 w0 G M' w where
  below := h.below
  le := h.le
  old := h.old
  hold := h.hold
  own x hx := h.own x (hp.mem_iff.2 hx)
  sep := sep_of_nodup ((hp.filterMap Ent.fp).nodup (nodup_of_sep h.sep))
  new x hx := h.new x (hp.mem_iff.2 hx)
theorem SS.nil (h : SS G0 w0 G M w) (T : TypeId) (sz : Nat) : SS G0 w0 G (.row none 0 0 T sz [] :: M) w :=
  h.push (x := .row none 0 0 T sz []) ⟨by simp, Nat.le_refl _, Nat.zero_le _, .inl ⟨rfl, rfl⟩⟩ (fun b hb => by cases hb)
theorem SS.nils (h : SS G0 w0 G M w) (T : TypeId) (sz : Nat) : ∀ n, SS G0 w0 G (List.replicate n (.row none 0 0 T sz []) ++ M) w
  | 0 => h
  | n + 1 => (SS.nils h T sz n).nil T sz

theorem SS.ins (pre : List Ent) (h : SS G0 w0 G (pre ++ M) w) (T : TypeId) (sz : Nat) : SS G0 w0 G (pre ++ .row none 0 0 T sz [] :: M) w := (h.nil T sz).perm List.perm_middle.symm
theorem SS.insN (pre : List Ent) (h : SS G0 w0 G (pre ++ M) w) (T : TypeId) (sz n : Nat) : SS G0 w0 G (pre ++ (List.replicate n (.row none 0 0 T sz []) ++ M)) w :=
  (h.nils T sz n).perm (by
    rw [← List.append_assoc, ← List.append_assoc]
    exact List.Perm.append_right _ List.perm_append_comm)
theorem SS.back1 (pre : List Ent) {x : Ent} (h : SS G0 w0 G (x :: (pre ++ M)) w) : SS G0 w0 G (pre ++ x :: M) w := h.perm List.perm_middle.symm
theorem SS.front1 (pre : List Ent) {x : Ent} (h : SS G0 w0 G (pre ++ x :: M) w) : SS G0 w0 G (x :: (pre ++ M)) w := h.perm List.perm_middle
theorem SS.swap (pre : List Ent) {x y : Ent} (h : SS G0 w0 G (pre ++ x :: y :: M) w) : SS G0 w0 G (pre ++ y :: x :: M) w := h.perm (List.Perm.append_left _ (List.Perm.swap _ _ _))
theorem SS.take (h : SS G0 w0 G M w) (k : Nat) : SS G0 w0 G (M.take k) w where
  below := h.below
  le := h.le
  old := h.old
  hold := h.hold
  own x hx := h.own x (List.mem_of_mem_take hx)
  sep i j x y b hi hj hx hy := by
    rw [List.getElem?_take] at hi hj
    split at hi
    · split at hj
      · exact h.sep i j x y b hi hj hx hy
      · cases hj
    · cases hi
  new x hx := h.new x (List.mem_of_mem_take hx)
/-- The first element of a row is left behind. -/
theorem SS.cutRow (pre : List Ent) {oa : Option Addr} {n c : Nat} {T : TypeId} {sz : Nat} {xs : List Value} (h : SS G0 w0 G (pre ++ .row oa (n + 1) c T sz xs :: M) w) :
    SS G0 w0 G (pre ++ .row (if c = 1 then oa else oa.map (·.add (1 * sz))) n (c - 1) T sz (xs.drop sz) :: M) w := by
  have hx : Ent.row oa (n + 1) c T sz xs ∈ pre ++ Ent.row oa (n + 1) c T sz xs :: M := by simp
  have hi : (pre ++ Ent.row oa (n + 1) c T sz xs :: M)[pre.length]? = some (Ent.row oa (n + 1) c T sz xs) := by simp
  obtain ⟨h1, h2, h3, h4⟩ : RowIn w oa (n + 1) c T sz xs := h.own _ hx
  have hrow : RowIn w (if c = 1 then oa else oa.map (·.add (1 * sz))) n (c - 1) T sz (xs.drop sz) := by
    refine ⟨by rw [List.length_drop, h1, Nat.add_mul]; omega, by omega, by omega, ?_⟩
    rcases h4 with ⟨_, rfl⟩ | ⟨g, off, cur, rfl, hg, hs, hc⟩
    · omega
    · refine .inr ⟨g, if c = 1 then off else off + sz, cur, ?_, hg, ?_, fun i u hu => ?_⟩
      · split
        · rfl
        · rw [Nat.one_mul, Option.map_some, Addr.add_lit]
      · split
        · rename_i hc1
          subst hc1
          omega
        · have : (c - 1 + 1) * sz = c * sz := by rw [show c - 1 + 1 = c from by omega]
          rw [Nat.add_mul] at this
          omega
      · rw [List.getElem?_drop] at hu
        have := hc _ u hu
        split
        · rename_i hc1
          have hn : n = 0 := by omega
          subst hn
          have : sz + i < xs.length := (List.getElem?_eq_some_iff.1 hu).1
          rw [h1] at this
          omega
        · rw [show off + sz + i = off + (sz + i) from by omega]
          exact this
  have := h.turn hi (w' := w) (y := .row (if c = 1 then oa else oa.map (·.add (1 * sz))) n (c - 1) T sz (xs.drop sz)) (fun _ _ _ => rfl) (Nat.le_refl _) rfl rfl rfl hrow (fun b hb => .inl (by
    cases oa with
    | none => simp [Ent.fp] at hb
    | some a =>
      have hblk : (a.add sz).block = a.block := by unfold Addr.add; split <;> rfl
      simp only [Ent.fp] at hb ⊢
      split at hb
      · exact hb
      · simpa [hblk] using hb))
  simpa using this

/-! ### Small ones for the texts that a program writes -/
theorem sz_of {t : TypeId} {n : Nat} (h : (P.info? t).map (·.size) = some n) : TSz P t n := by
  obtain ⟨i, hi, hs⟩ := Option.map_eq_some_iff.1 h
  exact ⟨i, hi, hs⟩
theorem fld_of {s : TypeId} {k off : Nat} {fs : Array Field} {f : Field} (hu : P.underlying s = some (.struct fs)) (hk : fs[k]? = some f) (ho : f.offset = off) (hs : (P.info? f.type).map (fun i => Nat.beq i.size 0) = some false) : TFld P s k off := by
  obtain ⟨i, hi, hz⟩ := Option.map_eq_some_iff.1 hs
  exact ⟨fs, f, i, hu, hk, ho, hi, fun hh => by rw [hh] at hz; cases hz⟩
theorem SS.bcell0 (h : SS G0 w0 G M w) {i b : Nat} {T : TypeId} {cs : List Value} (hi : M[i]? = some (.blk b T cs)) : w.cell? ⟨b, 0, none⟩ = cs[0]? := by
  have := h.bcell (k := 0) hi
  rwa [add_zero''] at this
theorem SS.bcell2 (h : SS G0 w0 G M w) {i b o k : Nat} {T : TypeId} {cs : List Value} (hi : M[i]? = some (.blk b T cs)) : w.cell? (((⟨b, 0, none⟩ : Addr).add o).add k) = cs[o + k]? := by
  rw [add_add']
  exact h.bcell hi
theorem op_indexN {t el : TypeId} {sz : Nat} {x y : Operand} {oa : Option Addr} {n c : Nat} {k : IntKind} {i : Nat} (ht : TSl P t el sz) (hx : ev e x = some (.slice oa n c)) (hy : ev e y = some (.int k i)) (h1 : i < n) (hoa : oa.isSome = true) :
    OpP P N e ⟨d, .indexAddr t x y, ty, pos, after, g⟩ (.pointer (some (elA oa (i * sz)))) := by
  have := op_indexAddr (N := N) (d := d) (ty := ty) (pos := pos) (after := after) (g := g) ht hx hy (by omega) (by omega) hoa
  rwa [Int.toNat_natCast] at this
theorem SS.sc_eq (h : SS G0 w0 G M w) {v v' : Value} (hv : v = v') : Sc w0 v' (.returned v) w := ⟨by rw [hv], h.below⟩
theorem SS.sc_b (h : SS G0 w0 G M w) {b b' : Bool} (hv : b = b') : Sc w0 (.bool b') (.returned (.bool b)) w := h.sc_eq (by rw [hv])
theorem SS.sc_i (h : SS G0 w0 G M w) {b b' : Int} (hv : b = b') : Sc w0 (.int .i64 b') (.returned (.int .i64 b)) w := h.sc_eq (by rw [hv])
theorem RSl.int {oa : Option Addr} {n c : Nat} {xs : List Int} (h : RSl 1 EInt G (.slice oa n c) xs) {i : Nat} (hi : i < xs.length) : oa.isSome = true ∧ gcell G (elA oa (i * 1)) = some (.int .i64 xs[i]) ∧ -9223372036854775808 ≤ xs[i] ∧ xs[i] ≤ 9223372036854775807 := by
  obtain ⟨h1, cs, h2, ⟨h3, h4, h5⟩, h6⟩ := h.at_ (List.getElem?_eq_getElem hi)
  subst h3
  exact ⟨h1, h6 0 _ rfl, h4, h5⟩
theorem RSl.bool {oa : Option Addr} {n c : Nat} {xs : List Bool} (h : RSl 1 EBool G (.slice oa n c) xs) {i : Nat} (hi : i < xs.length) : oa.isSome = true ∧ gcell G (elA oa (i * 1)) = some (.bool xs[i]) := by
  obtain ⟨h1, cs, h2, h3, h6⟩ := h.at_ (List.getElem?_eq_getElem hi)
  cases h3
  exact ⟨h1, h6 0 _ rfl⟩
/-- The cells of an element that fills several. -/
theorem RSl.el {α : Type} {sz : Nat} {E : ER α} {oa : Option Addr} {n c : Nat} {xs : List α} (h : RSl sz E G (.slice oa n c) xs) {i : Nat} (hi : i < xs.length) : oa.isSome = true ∧ ∃ cs : List Value, cs.length = sz ∧ E G cs xs[i] ∧ ∀ (k : Nat) (u : Value), cs[k]? = some u → gcell G ((elA oa (i * sz)).add k) = some u := by
  obtain ⟨h1, cs, h2, h3, h6⟩ := h.at_ (List.getElem?_eq_getElem hi)
  exact ⟨h1, cs, h2, h3, fun k u hu => by rw [elA_add]; exact h6 k u hu⟩

/-! ### A region that draws its order: its beginning, and what its loads lean on -/
theorem al_start {id n : Nat} {Q : Post} {ops : Array Oper} (hS : SS G0 w0 G M w) (hm : P.follows .mixedOrders = true) (hn : ops.size = n) (h : ∀ w, SS G0 w0 G M w → AL P N ops Q (SS G0 w0 G M) n [] e w) : CW P N (.region id ops true) e w Q := al_begin _ hm hn (h _ hS.drew)
theorem al_at {Q : Post} {ops : Array Oper} {S : World → Prop} {fuel : Nat} {ds : List Nat} {a : Act} (h : AL P N ops Q S fuel ds e w) (ha : Kn N e a) : wpT P ops Q S fuel (lst ops.size ds) a w := h a ha
theorem al_start' {id n : Nat} {Q : Post} {ops : Array Oper} {Mt : List Ent} (hS : SS G0 w0 G M w) (hT : SS G0 w0 G Mt w) (hm : P.follows .mixedOrders = true) (hn : ops.size = n) (h : ∀ w, SS G0 w0 G M w → SS G0 w0 G Mt w → AL P N ops Q (SS G0 w0 G Mt) n [] e w) : CW P N (.region id ops true) e w Q := al_begin _ hm hn (h _ hS.drew hT.drew)
theorem no_need {ops : Array Oper} {i : Nat} {p : Prop} (h : need ops i = false) : need ops i = true → p := fun hh => by rw [h] at hh; cases hh
theorem SS.back {G' : GH} {M' : List Ent} (h : SS G0 w0 G M w) (h' : SS G0 w0 G' M' w') (hl : Le G G') (hM : ∀ x ∈ M, x ∈ M') : SS G0 w0 G M w' where
  below := h'.below
  le := h.le
  old := h.old
  hold := h'.hold.mono hl
  own x hx := h'.own x (hM x hx)
  sep := h.sep
  new := h.new
/-- A row that is filled from the front. -/
theorem fill_set {α : Type} (V : α → Value) (z : Value) (l : List α) (n k : Nat) (x : α) (h : k < n) (hk : l[k]? = some x) : ((l.take k).map V ++ List.replicate (n - k) z).set (k * 1) (V x) = (l.take (k + 1)).map V ++ List.replicate (n - (k + 1)) z := by
  have hkl : k < l.length := (List.getElem?_eq_some_iff.1 hk).1
  have hx : l[k] = x := (List.getElem?_eq_some_iff.1 hk).2
  have hl : ((l.take k).map V).length = k := by simp; omega
  rw [Nat.mul_one, List.set_append_right _ _ (by omega), hl, Nat.sub_self, show n - k = (n - (k + 1)) + 1 from by omega, List.replicate_succ, List.set_cons_zero, List.take_succ_eq_append_getElem hkl, List.map_append]
  simp [hx]
theorem fill_keep {α : Type} (V : α → Value) (z : Value) (l : List α) (n k : Nat) (x : α) (h : k < n) (hk : l[k]? = some x) (hz : V x = z) : (l.take k).map V ++ List.replicate (n - k) z = (l.take (k + 1)).map V ++ List.replicate (n - (k + 1)) z := by
  rw [← fill_set V z l n k x h hk, hz]
  have hkl : k < l.length := (List.getElem?_eq_some_iff.1 hk).1
  have hl : ((l.take k).map V).length = k := by simp; omega
  rw [Nat.mul_one, List.set_append_right _ _ (by omega), hl, Nat.sub_self, show n - k = (n - (k + 1)) + 1 from by omega, List.replicate_succ, List.set_cons_zero]
theorem fill_end {α : Type} (V : α → Value) (z : Value) (l : List α) : (l.take l.length).map V ++ List.replicate (l.length - l.length) z = l.map V := by simp
end Go.Proofs.Ytnmkffkalnkbbaa.K
