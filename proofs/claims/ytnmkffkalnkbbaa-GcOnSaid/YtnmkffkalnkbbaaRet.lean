/-
  Results that lie in a block of the call's own; cells read through the ghost heap.
  It speaks of any program. No condition.
-/
import Derived.Test.YtnmkffkalnkbbaaCell
namespace Go.Proofs.Ytnmkffkalnkbbaa.K
open Go Go.RowKit
section
variable {P : Program} {N : Nat} {e : Env} {w : World} {fn : Func} {R : Ending → World → Prop}
theorem results_cellN {t : Tmp} {ty : TypeId} {n : Nat} {p : Addr} {cs : List Value} {tmps : Array Value} (hr : fn.results = #[.cell t ty]) (ht : TAgg P ty n) (hv : tmps.getD t undef = .pointer (some p)) (hn : cs.length = n) (hc : ∀ (k : Nat) (u : Value), cs[k]? = some u → w.cell? (p.add k) = some u) :
    (results fn tmps).run P w = .ok (.agg cs.toArray) w := by
  obtain ⟨⟨dd, hu, hd⟩, i, hi, hs⟩ := ht
  have hag : (isAgg ty).run P w = .ok true w := by
    unfold isAgg
    simp only [Sem.run_bind, run_underlying hu, Result.andThen_ok]
    cases dd <;> first | rfl | cases hd
  have hl := run_loadCells_list (P := P) w p cs hc
  subst hn
  simp only [Array.getD_eq_getD_getElem?] at hv
  simp [results, hr, loadVar, sizeOf, typeInfo, hv, asAddr, hag, hi, hs, hl]
theorem retN {t : Tmp} {ty : TypeId} {n : Nat} {p : Addr} {cs : List Value} (hr : fn.results = #[.cell t ty]) (ht : TAgg P ty n) (hv : look e t = some (.pointer (some p))) (hn : cs.length = n) (hc : ∀ (k : Nat) (u : Value), cs[k]? = some u → w.cell? (p.add k) = some u) (hR : R (.returned (.agg cs.toArray)) w) : PQ N e w (bodyPost P fn R) .ret := fun a ha => by
  refine ⟨ha.defers, _, results_cellN hr ht ?_ hn hc, hR⟩
  have := ha.cells t _ hv
  simp [this]
end
/-- The cells of a row that is read through the ghost heap. -/
theorem RSl.newsV {α : Type} {E : ER α} {V : α → Value} {G : GH} {w : World} {oa : Option Addr} {n c : Nat} {xs : List α} (hE : ∀ G cs x, E G cs x → cs = [V x]) (h : RSl 1 E G (.slice oa n c) xs) (hw : Holds G w) : ∀ (k : Nat) (u : Value), (xs.map V)[k]? = some u → oa.isSome = true ∧ w.cell? (elA oa k) = some u := fun k u hu => by
  have hk : k < xs.length := by simpa using (List.getElem?_eq_some_iff.1 hu).1
  have hx : xs[k]? = some xs[k] := List.getElem?_eq_getElem hk
  obtain ⟨h1, cs, _, h2, h3⟩ := h.at_ hx
  have h4 : u = V xs[k] := by simpa [hk] using hu.symm
  subst h4
  have h5 := h3 0 _ (by rw [hE _ _ _ h2]; rfl)
  rw [Nat.mul_one, Nat.add_zero] at h5
  exact ⟨h1, hw.cell h5⟩
theorem RSl.newsI {G : GH} {w : World} {oa : Option Addr} {n c : Nat} {xs : List Int} (h : RSl 1 EInt G (.slice oa n c) xs) (hw : Holds G w) : ∀ (k : Nat) (u : Value), (xs.map (Value.int .i64))[k]? = some u → oa.isSome = true ∧ w.cell? (elA oa k) = some u := h.newsV (fun _ _ _ h => h.1) hw
theorem RSl.bnd {G : GH} {v : Value} {xs : List Int} (h : RSl 1 EInt G v xs) : ∀ x ∈ xs, -9223372036854775808 ≤ x ∧ x ≤ 9223372036854775807 := fun x hx => by
  obtain ⟨oa, c, rfl, _, _⟩ := h.elim
  obtain ⟨i, hi⟩ := List.getElem?_of_mem hx
  obtain ⟨_, cs, _, h2, _⟩ := h.at_ hi
  exact h2.2
theorem ones_i (xs : List Int) : ∀ u ∈ xs.map (Value.int .i64), u.oneCell' = true := fun u hu => by
  obtain ⟨x, _, rfl⟩ := List.mem_map.1 hu
  rfl
theorem op_eqlT {P : Program} {N : Nat} {e : Env} {d : Option Tmp} {ty : TypeId} {pos : String} {after : Array Edge} {g : Option (Nat × Bool)} {t t' : TypeId} {x y : Operand} {m n : Int} {k : IntKind} (hx : ev e x = some (.int k m)) (hy : ev e y = some (.int k n)) (h : m = n) : OpP P N e ⟨d, .binOp .eql t x y t', ty, pos, after, g⟩ (.bool true) := by
  have := op_eql (P := P) (N := N) (t := t) (t' := t') (d := d) (ty := ty) (pos := pos) (after := after) (g := g) hx hy
  rwa [decide_eq_true h] at this
/-- A row of the call's own, handed on: what it reads by is by itself. -/
theorem SS.give_fr {G0 G : GH} {w0 w : World} {M : List Ent} {α : Type} {E : ER α} (zs : List α) (pre : List Ent) {oa : Option Addr} {n c : Nat} {T : TypeId} {sz : Nat} {xs : List Value} (hE : EMono E) (h : SS G0 w0 G (pre ++ .row oa n c T sz xs :: M) w) (hsz : 0 < sz) (hr : Rows sz E noG xs zs) (hn : n = zs.length) :
    ∃ F G', RSl sz E F (.slice oa n c) zs ∧ (∀ b, b < w0.heap.size → F b = none) ∧ Le F G' ∧ Le G G' ∧ SS G0 w0 G' (pre ++ M) w := by
  obtain ⟨h1, h2, h3⟩ := h.row_len pre
  have hx : Ent.row oa n c T sz xs ∈ pre ++ Ent.row oa n c T sz xs :: M := by simp
  refine ⟨oneG w (Ent.row oa n c T sz xs).fp, _, .of_cells hn h2 h3 (hr.mono hE (fun b o hb => by cases hb)) hsz (RowIn.full (h.own _ hx) fun b hb => ?_), fun b hb => ?_, joinG_right h.hold (oneG_holds _ _), joinG_left _ _, h.pub pre⟩
  · have hfp : (Ent.row oa n c T sz xs).fp = some b := hb
    simp [oneG, hfp]
  · unfold oneG
    rw [if_neg]
    intro hfp
    have := (h.new _ hx b hfp).2
    omega
/-- Two results, each by itself. -/
theorem join_fr {G F F' : GH} {w0 w : World} (hG : Holds G w) (hl : Le F G) (hl' : Le F' G) (hF : ∀ b, b < w0.heap.size → F b = none) (hF' : ∀ b, b < w0.heap.size → F' b = none) : ∃ J, Le F J ∧ Le F' J ∧ Le J G ∧ ∀ b, b < w0.heap.size → J b = none :=
  ⟨joinG F F', joinG_left _ _, joinG_right (hG.mono hl) (hG.mono hl'), fun b o hb => by
    unfold joinG at hb
    cases hf : F b with
    | some o' => rw [hf] at hb; exact hl b o (by rw [hf]; exact hb)
    | none => rw [hf] at hb; exact hl' b o hb, fun b hb => by simp [joinG, hF b hb, hF' b hb]⟩
theorem op_neqF {P : Program} {N : Nat} {e : Env} {d : Option Tmp} {ty : TypeId} {pos : String} {after : Array Edge} {g : Option (Nat × Bool)} {t t' : TypeId} {x y : Operand} {m n : Int} {k : IntKind} (hx : ev e x = some (.int k m)) (hy : ev e y = some (.int k n)) (h : m = n) : OpP P N e ⟨d, .binOp .neq t x y t', ty, pos, after, g⟩ (.bool false) := by
  have := op_neq (P := P) (N := N) (t := t) (t' := t') (d := d) (ty := ty) (pos := pos) (after := after) (g := g) hx hy
  rwa [decide_eq_true h] at this
theorem op_minN {P : Program} {N : Nat} {e : Env} {d : Option Tmp} {ty : TypeId} {pos : String} {after : Array Edge} {g : Option (Nat × Bool)} {x y : Operand} {ts : Array TypeId} {m n : Nat} (hx : ev e x = some (.int .i64 m)) (hy : ev e y = some (.int .i64 n)) : OpP P N e ⟨d, .call ⟨.builtin .min, #[x, y], ts⟩, ty, pos, after, g⟩ (.int .i64 ((min m n : Nat) : Int)) := by
  have h := op_min (P := P) (N := N) (d := d) (ty := ty) (pos := pos) (after := after) (g := g) (ts := ts) hx hy
  have he : (if (n : Int) < (m : Int) then (n : Int) else (m : Int)) = ((min m n : Nat) : Int) := by split <;> omega
  rwa [he] at h
theorem op_val {P : Program} {N : Nat} {e : Env} {o : Oper} {v v' : Value} (h : OpP P N e o v) (hv : v = v') : OpP P N e o v' := hv ▸ h
end Go.Proofs.Ytnmkffkalnkbbaa.K
