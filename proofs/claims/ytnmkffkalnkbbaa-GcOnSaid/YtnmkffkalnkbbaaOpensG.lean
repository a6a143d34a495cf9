/-
  How the arguments of the laws of layer 9 are opened.
  No condition but the premises that each theorem names.
-/
import Derived.Test.YtnmkffkalnkbbaaArr
import Derived.Test.YtnmkffkalnkbbaaHpb
import Derived.Test.YtnmkffkalnkbbaaOpen
namespace Go.Proofs.Ytnmkffkalnkbbaa.K
open Go Go.RowKit
set_option linter.unusedVariables false
set_option linter.unusedSimpArgs false

open Pl Go.ChangeShapes Go.WideShapes
def EU8 : ER Int := fun _ cs n => cs = [.int .u8 n] ∧ 0 ≤ n ∧ n ≤ 255
theorem ope_u8 {P : Program} {w : World} {t : TypeId} (h : P.underlying t = some (.int .u8)) : OpE P w t 1 EU8 := fun H enc n cs x hx => by
  obtain ⟨m, rfl, _, hw⟩ := DataW.trod_int h hx
  have hm : 0 ≤ m ∧ m ≤ 255 := by simpa [Lit.wf, IntKind.min, IntKind.max, IntKind.signed, IntKind.bits] using hw
  exact ⟨m, rfl, rfl, hm⟩
theorem struct4 {α β γ δ : Type} {P : Program} {w : World} {t : TypeId} {f g k j : Field} {E1 : ER α} {E2 : ER β} {E3 : ER γ} {E4 : ER δ} (h : P.underlying t = some (.struct #[f, g, k, j])) (hC : P.cellsOf t = 4) (ho : f.offset = 0 ∧ g.offset = 1 ∧ k.offset = 2 ∧ j.offset = 3) (hc : P.cellsOf f.type = 1 ∧ P.cellsOf g.type = 1 ∧ P.cellsOf k.type = 1 ∧ P.cellsOf j.type = 1) (h1 : OpE P w f.type 1 E1) (h2 : OpE P w g.type 1 E2) (h3 : OpE P w k.type 1 E3) (h4 : OpE P w j.type 1 E4) :
    OpE P w t 4 (fun G cs (x : α × β × γ × δ) => ∃ v u s r, cs = [v, u, s, r] ∧ E1 G [v] x.1 ∧ E2 G [u] x.2.1 ∧ E3 G [s] x.2.2.1 ∧ E4 G [r] x.2.2.2) := fun H enc n cs x hx => by
  obtain ⟨hl, v, a, hv, ha⟩ := part_of (f := f) (i := 0) h hx rfl hc.1 h1
  obtain ⟨_, u, b, hu, hb⟩ := part_of (f := g) (i := 1) h hx rfl hc.2.1 h2
  obtain ⟨_, s, c, hs, hc'⟩ := part_of (f := k) (i := 2) h hx rfl hc.2.2.1 h3
  obtain ⟨_, r, d, hr, hd'⟩ := part_of (f := j) (i := 3) h hx rfl hc.2.2.2 h4
  rw [hC] at hl
  rw [ho.1] at hv
  rw [ho.2.1] at hu
  rw [ho.2.2.1] at hs
  rw [ho.2.2.2] at hr
  match cs, hl with
  | [c0, c1, c2, c3], _ =>
    obtain rfl : c0 = v := by simpa using hv
    obtain rfl : c1 = u := by simpa using hu
    obtain rfl : c2 = s := by simpa using hs
    obtain rfl : c3 = r := by simpa using hr
    exact ⟨(a, b, c, d), rfl, c0, c1, c2, c3, rfl, ha, hb, hc', hd'⟩
theorem ope_cell (w : World) : OpE Try.prog w 58 3 ECell :=
  (struct3 Try.underlying58 (by kernel_rfl) ⟨rfl, rfl, rfl⟩ ⟨by kernel_rfl, by kernel_rfl, by kernel_rfl⟩ (ope_int Try.underlying3) (ope_str Try.underlying9) (ope_int Try.underlying3)).turn fun G cs a ⟨v, u, s, h0, h1, h2, h3⟩ => by
    obtain ⟨k, nm, n⟩ := a
    obtain ⟨e1, k1⟩ := h1
    obtain ⟨e2, k2⟩ := h2
    obtain ⟨e3, k3⟩ := h3
    simp only [List.cons.injEq, and_true] at e1 e2 e3
    subst e1
    subst e2
    subst e3
    exact ⟨⟨k, nm, n⟩, h0, k1, k3, by unfold maxLen at k2; omega⟩
theorem ope_op (w : World) : OpE Try.prog w 66 4 EOp :=
  (struct4 Try.underlying66 (by kernel_rfl) ⟨rfl, rfl, rfl, rfl⟩ ⟨by kernel_rfl, by kernel_rfl, by kernel_rfl, by kernel_rfl⟩ (ope_int Try.underlying3) (ope_slice Try.underlying59 (by kernel_rfl) (ope_cell w)) (ope_u8 Try.underlying5) (ope_u8 Try.underlying5)).turn fun G cs a ⟨v, u, s, r, h0, h1, h2, h3, h4⟩ => by
    obtain ⟨k, p, q, z⟩ := a
    obtain ⟨e1, k1⟩ := h1
    obtain ⟨u', e2, k2⟩ := h2
    obtain ⟨e3, k3⟩ := h3
    obtain ⟨e4, k4⟩ := h4
    simp only [List.cons.injEq, and_true] at e1 e2 e3 e4
    subst e1
    subst e2
    subst e3
    subst e4
    exact ⟨(k, p, q, z), u, h0, k2, k1, k3, k4⟩
theorem ope_ops (w : World) : OpE Try.prog w 22 1 (ESl 4 EOp) := ope_slice Try.underlying22 (by kernel_rfl) (ope_op w)
theorem own : ownKnob Try.prog.godebug = none := by kernel_rfl
theorem kids : Kids Try.prog (· < Try.prog.types.size) := kids_rows (by kernel_rfl) (by kernel_rfl)
theorem slfull : ∀ t e, t < Try.prog.types.size → Try.prog.underlying t = some (.slice e) → 0 < Try.prog.cellsOf e := slices_full_of Try.prog (by kernel_rfl)

end Go.Proofs.Ytnmkffkalnkbbaa.K
