/-
  How the arguments of the laws of layer 21 are opened.
  No condition but the premises that each theorem names.
-/
import Derived.Test.YtmkgechdfimfnaaArr
import Derived.Test.YtmkgechdfimfnaaJslices2
namespace Go.Proofs.Ytmkgechdfimfnaa.K
open Go Go.RowKit
set_option linter.unusedVariables false
set_option linter.unusedSimpArgs false

open Pl Go.ChangeShapes Go.WideShapes
theorem ope_ints (w : World) : OpE Try.prog w 28 1 (ESl 1 EInt) := ope_slice Try.underlying28 (by kernel_rfl) (ope_int Try.underlying3)
theorem ope_rule (w : World) : OpE Try.prog w 30 3 ERule :=
  (struct3 Try.underlying30 (by kernel_rfl) ⟨rfl, rfl, rfl⟩ ⟨by kernel_rfl, by kernel_rfl, by kernel_rfl⟩ (ope_int Try.underlying3) (ope_ints w) (ope_ints w)).turn fun G cs a ⟨v, u, s, h0, h1, h2, h3⟩ => by
    obtain ⟨k, p, q⟩ := a
    obtain ⟨e1, k1⟩ := h1
    obtain ⟨u', e2, k2⟩ := h2
    obtain ⟨s', e3, k3⟩ := h3
    simp only [List.cons.injEq, and_true] at e1 e2 e3
    subst e1
    subst e2
    subst e3
    exact ⟨⟨k, p, q⟩, u, s, h0, k2, k3, k1.1, k1.2⟩
theorem ope_rules (w : World) : OpE Try.prog w 22 1 (ESl 3 ERule) := ope_slice Try.underlying22 (by kernel_rfl) (ope_rule w)
theorem ope_step (w : World) : OpE Try.prog w 37 2 EStep :=
  (struct2 Try.underlying37 (by kernel_rfl) ⟨rfl, rfl⟩ ⟨by kernel_rfl, by kernel_rfl⟩ (ope_int Try.underlying3) (ope_ints w)).turn fun G cs a ⟨v, u, h0, h1, h2⟩ => by
    obtain ⟨k, p⟩ := a
    obtain ⟨e1, k1⟩ := h1
    obtain ⟨u', e2, k2⟩ := h2
    simp only [List.cons.injEq, and_true] at e1 e2
    subst e1
    subst e2
    exact ⟨⟨k, p⟩, u, h0, k2, k1⟩
theorem ope_steps (w : World) : OpE Try.prog w 32 1 (ESl 2 EStep) := ope_slice Try.underlying32 (by kernel_rfl) (ope_step w)
theorem own : ownKnob Try.prog.godebug = none := by kernel_rfl
theorem kids : Kids Try.prog (· < Try.prog.types.size) := kids_rows (by kernel_rfl) (by kernel_rfl)
theorem slfull : ∀ t e, t < Try.prog.types.size → Try.prog.underlying t = some (.slice e) → 0 < Try.prog.cellsOf e := slices_full_of Try.prog (by kernel_rfl)

end Go.Proofs.Ytmkgechdfimfnaa.K
