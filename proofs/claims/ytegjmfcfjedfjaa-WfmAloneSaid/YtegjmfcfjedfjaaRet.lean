/-
  Results that lie in a block of the call's own; cells read through the ghost heap.
  It speaks of any program. No condition.
-/
import Derived.Test.YtegjmfcfjedfjaaCell
namespace Go.Proofs.Ytegjmfcfjedfjaa.K
open Go Go.RowKit
section
variable {P : Program} {N : Nat} {e : Env} {w : World} {fn : Func} {R : Ending → World → Prop}
theorem results_cellN {t : Tmp} {ty : TypeId} {n : Nat} {p : Addr} {cs : List Value} {tmps : Array Value} (hr : fn.results = #[.cell t ty]) (ht : TAgg P ty n) (hv : tmps.getD t undef = .pointer (some p)) (hn : cs.length = n) (hc : ∀ (k : Nat) (u : Value), cs[k]? = some u → w.cell? (p.add k) = some u) :
    (results fn tmps).run P w = .ok (.agg cs.toArray) w := by
  obtain ⟨⟨dd, hu, hd⟩, i, hi, hs⟩ := ht
  have hag : (isAgg ty).run P w = .ok true w := by
    unfold isAgg
    simp only [Sem.run_bind, run_underlying hu, Result.andThen_ok]
    cases dd <;> first | rfl | cases hd
  have hl := run_loadCells_list (P := P) w p cs hc
  subst hn
  simp only [Array.getD_eq_getD_getElem?] at hv
  simp [results, hr, loadVar, sizeOf, typeInfo, hv, asAddr, hag, hi, hs, hl]
theorem retN {t : Tmp} {ty : TypeId} {n : Nat} {p : Addr} {cs : List Value} (hr : fn.results = #[.cell t ty]) (ht : TAgg P ty n) (hv : look e t = some (.pointer (some p))) (hn : cs.length = n) (hc : ∀ (k : Nat) (u : Value), cs[k]? = some u → w.cell? (p.add k) = some u) (hR : R (.returned (.agg cs.toArray)) w) : PQ N e w (bodyPost P fn R) .ret := fun a ha => by
  refine ⟨ha.defers, _, results_cellN hr ht ?_ hn hc, hR⟩
  have := ha.cells t _ hv
  simp [this]
end
/-- The cells of a row that is read through the ghost heap. -/
theorem RSl.newsV {α : Type} {E : ER α} {V : α → Value} {G : GH} {w : World} {oa : Option Addr} {n c : Nat} {xs : List α} (hE : ∀ G cs x, E G cs x → cs = [V x]) (h : RSl 1 E G (.slice oa n c) xs) (hw : Holds G w) : ∀ (k : Nat) (u : Value), (xs.map V)[k]? = some u → oa.isSome = true ∧ w.cell? (elA oa k) = some u := fun k u hu => by
  have hk : k < xs.length := by simpa using (List.getElem?_eq_some_iff.1 hu).1
  have hx : xs[k]? = some xs[k] := List.getElem?_eq_getElem hk
  obtain ⟨h1, cs, _, h2, h3⟩ := h.at_ hx
  have h4 : u = V xs[k] := by simpa [hk] using hu.symm
  subst h4
  have h5 := h3 0 _ (by rw [hE _ _ _ h2]; rfl)
  rw [Nat.mul_one, Nat.add_zero] at h5
  exact ⟨h1, hw.cell h5⟩
theorem RSl.newsI {G : GH} {w : World} {oa : Option Addr} {n c : Nat} {xs : List Int} (h : RSl 1 EInt G (.slice oa n c) xs) (hw : Holds G w) : ∀ (k : Nat) (u : Value), (xs.map (Value.int .i64))[k]? = some u → oa.isSome = true ∧ w.cell? (elA oa k) = some u := h.newsV (fun _ _ _ h => h.1) hw
theorem RSl.bnd {G : GH} {v : Value} {xs : List Int} (h : RSl 1 EInt G v xs) : ∀ x ∈ xs, -9223372036854775808 ≤ x ∧ x ≤ 9223372036854775807 := fun x hx => by
  obtain ⟨oa, c, rfl, _, _⟩ := h.elim
  obtain ⟨i, hi⟩ := List.getElem?_of_mem hx
  obtain ⟨_, cs, _, h2, _⟩ := h.at_ hi
  exact h2.2
theorem ones_i (xs : List Int) : ∀ u ∈ xs.map (Value.int .i64), u.oneCell' = true := fun u hu => by
  obtain ⟨x, _, rfl⟩ := List.mem_map.1 hu
  rfl
end Go.Proofs.Ytegjmfcfjedfjaa.K
