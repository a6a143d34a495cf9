/-
  How the arguments of the laws of layer 22 are opened.
  No condition but the premises that each theorem names.
-/
import Derived.Test.YtbpmkidaoemebaaOpen
import Derived.Test.YtbpmkidaoemebaaCourt
import Derived.Test.YtbpmkidaoemebaaTerms
namespace Go.Proofs.Ytbpmkidaoemebaa.K
open Go Go.RowKit
set_option linter.unusedVariables false
set_option linter.unusedSimpArgs false

open Pl Go.ChangeShapes Go.WideShapes
theorem ope_cell (w : World) : OpE Try.prog w 69 3 ECell :=
  (struct3 Try.underlying69 (by kernel_rfl) ⟨rfl, rfl, rfl⟩ ⟨by kernel_rfl, by kernel_rfl, by kernel_rfl⟩ (ope_int Try.underlying3) (ope_str Try.underlying9) (ope_int Try.underlying3)).turn fun G cs a ⟨v, u, s, h0, h1, h2, h3⟩ => by
    obtain ⟨k, nm, n⟩ := a
    obtain ⟨e1, k1⟩ := h1
    obtain ⟨e2, k2⟩ := h2
    obtain ⟨e3, k3⟩ := h3
    simp only [List.cons.injEq, and_true] at e1 e2 e3
    subst e1
    subst e2
    subst e3
    exact ⟨⟨k, nm, n⟩, h0, k1, k3, by unfold maxLen at k2; omega⟩
theorem ope_ints (w : World) : OpE Try.prog w 29 1 (ESl 1 EInt) := ope_slice Try.underlying29 (by kernel_rfl) (ope_int Try.underlying3)
theorem ope_rule (w : World) : OpE Try.prog w 48 3 ERule :=
  (struct3 Try.underlying48 (by kernel_rfl) ⟨rfl, rfl, rfl⟩ ⟨by kernel_rfl, by kernel_rfl, by kernel_rfl⟩ (ope_int Try.underlying3) (ope_ints w) (ope_ints w)).turn fun G cs a ⟨v, u, s, h0, h1, h2, h3⟩ => by
    obtain ⟨k, p, q⟩ := a
    obtain ⟨e1, k1⟩ := h1
    obtain ⟨u', e2, k2⟩ := h2
    obtain ⟨s', e3, k3⟩ := h3
    simp only [List.cons.injEq, and_true] at e1 e2 e3
    subst e1
    subst e2
    subst e3
    exact ⟨⟨k, p, q⟩, u, s, h0, k2, k3, k1.1, k1.2⟩
theorem ope_atoms (w : World) : OpE Try.prog w 22 1 (ESl 1 EAtom) := ope_slice Try.underlying22 (by kernel_rfl) (ope_slice Try.underlying70 (by kernel_rfl) (ope_cell w))
theorem ope_rules (w : World) : OpE Try.prog w 23 1 (ESl 3 ERule) := ope_slice Try.underlying23 (by kernel_rfl) (ope_rule w)
/-- A program's reading. -/
def EProg : ER (List (List Cell) × List Rule) := fun G cs x => ∃ va vr, cs = [va, vr] ∧ RSl 1 EAtom G va x.1 ∧ RSl 3 ERule G vr x.2
theorem ope_prog (w : World) : OpE Try.prog w 25 2 EProg :=
  (struct2 Try.underlying25 (by kernel_rfl) ⟨rfl, rfl⟩ ⟨by kernel_rfl, by kernel_rfl⟩ (ope_atoms w) (ope_rules w)).turn fun G cs a ⟨v, u, h0, h1, h2⟩ => by
    obtain ⟨v', e1, k1⟩ := h1
    obtain ⟨u', e2, k2⟩ := h2
    simp only [List.cons.injEq, and_true] at e1 e2
    subst e1
    subst e2
    exact ⟨a, v, u, h0, k1, k2⟩
theorem ope_step (w : World) : OpE Try.prog w 44 2 EStep :=
  (struct2 Try.underlying44 (by kernel_rfl) ⟨rfl, rfl⟩ ⟨by kernel_rfl, by kernel_rfl⟩ (ope_int Try.underlying3) (ope_ints w)).turn fun G cs a ⟨v, u, h0, h1, h2⟩ => by
    obtain ⟨k, p⟩ := a
    obtain ⟨e1, k1⟩ := h1
    obtain ⟨u', e2, k2⟩ := h2
    simp only [List.cons.injEq, and_true] at e1 e2
    subst e1
    subst e2
    exact ⟨⟨k, p⟩, u, h0, k2, k1⟩
theorem ope_steps (w : World) : OpE Try.prog w 28 1 (ESl 2 EStep) := ope_slice Try.underlying28 (by kernel_rfl) (ope_step w)
/-- A proof's reading. -/
def EProof : ER (List Step × List Int) := fun G cs x => ∃ vs vh, cs = [vs, vh] ∧ RSl 2 EStep G vs x.1 ∧ RSl 1 EInt G vh x.2
theorem ope_proof (w : World) : OpE Try.prog w 31 2 EProof :=
  (struct2 Try.underlying31 (by kernel_rfl) ⟨rfl, rfl⟩ ⟨by kernel_rfl, by kernel_rfl⟩ (ope_steps w) (ope_ints w)).turn fun G cs a ⟨v, u, h0, h1, h2⟩ => by
    obtain ⟨v', e1, k1⟩ := h1
    obtain ⟨u', e2, k2⟩ := h2
    simp only [List.cons.injEq, and_true] at e1 e2
    subst e1
    subst e2
    exact ⟨a, v, u, h0, k1, k2⟩
theorem own : ownKnob Try.prog.godebug = none := by kernel_rfl
theorem kids : Kids Try.prog (· < Try.prog.types.size) := kids_rows (by kernel_rfl) (by kernel_rfl)
theorem slfull : ∀ t e, t < Try.prog.types.size → Try.prog.underlying t = some (.slice e) → 0 < Try.prog.cellsOf e := slices_full_of Try.prog (by kernel_rfl)

end Go.Proofs.Ytbpmkidaoemebaa.K
