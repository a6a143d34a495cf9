/-
  JudgeTells: the row.
  No condition but the premises that each theorem names.
-/
import Derived.Test.YtbpmkidaoemebaaRows
import Derived.Test.YtbpmkidaoemebaaOpensJ
import Derived.Test.YtbpmkidaoemebaaLJtells
namespace Go.Proofs.Ytbpmkidaoemebaa.K
open Go Go.RowKit
set_option linter.unusedVariables false
set_option linter.unusedSimpArgs false

open Pl Go.ChangeShapes Go.WideShapes Go.ChangeAt
set_option maxRecDepth 100000 in
theorem judgeTells_lifted (os : Os) (started : os.Started) (H : Type) (enc : TypeId × Value → H) :
    ReturnsInHanded {} Try.checked os 4 .any (Rows.judgeTellsSpec.pre6 enc Try.prog Try.f4 Rows.judgeTellsRow.domain false) (Rows.judgeTellsSpec.post enc Try.prog Try.f4 false true false false) := by
  refine returnsInHanded_of_change (C := Try.checked) own started (by kernel_rfl) Try.func4
    (ChangeSpec.witness6 (enc := enc) (C := Try.checked) false ⟨#[], #[.agg #[.slice none 0 0, .slice none 0 0], .agg #[.slice none 0 0, .slice none 0 0]], []⟩ 8 (by kernel_rfl) (by kernel_rfl) (by kernel_rfl) (by kernel_rfl)) ?_
  intro W base args ds gs before hval0 hW _ _
  have hval : ∀ (j : Nat) t v, Try.f4.params[j]? = some t → args[j]? = some v → Value.okWide Try.prog W .any base t v := hval0
  have hW' := hW
  obtain ⟨p, q, hA0, hV, hpq, _, _⟩ := hW
  have hA : DataW.TrodAll enc Try.prog W 0 (fun _ => true) true Try.f4.params.toList args.toList ds p := hA0
  rw [Try.params4] at hA hval
  obtain ⟨v0, v1, d0, d1, p0, p1, rfl, rfl, _, t0, t1⟩ := trodAll_two hA
  obtain ⟨rfl, _⟩ := trodVars_none hV
  obtain ⟨cs0, ⟨atoms0, rs0⟩, rfl, va0, vr0, rfl, xA0, xR0⟩ := arg_agg Try.underlying25 (hval 0 25 v0 rfl rfl) t0 (ope_prog W)
  obtain ⟨cs1, ⟨l1, h1⟩, rfl, vs1, vh1, rfl, xL1, xH1⟩ := arg_agg Try.underlying31 (hval 1 31 v1 rfl rfl) t1 (ope_proof W)
  refine (L22_JudgeTells_c (fullG W) W (Holds.full W) va0 vr0 atoms0 rs0 xA0 xR0 vs1 vh1 l1 h1 xL1 xH1).mono fun e W' ⟨he, hB⟩ => ?_
  exact ⟨_, he, post_true (P := Try.prog) (tb := 4) hW' kids slfull (by rw [Try.params4]; decide) rfl rfl Try.underlying4 rfl rfl rfl hB⟩
theorem judgeTells : Rows.JudgeTellsSaid :=
  OpenClaim.holds_of_wide 4 Try.f4 rfl rfl rfl rfl rfl rfl rfl ⟨rfl, rfl, rfl, rfl, rfl⟩ rfl rfl rfl rfl rfl (by kernel_rfl) Try.func4 (by kernel_rfl)
    (of_decide_eq_true (by kernel_rfl)) (by unfold Func.isWrapper; first | (rw [if_pos (by decide +kernel)]; kernel_rfl) | (rw [if_neg (by decide +kernel)]; exact ⟨rfl, rfl⟩))
    (fun os started H enc _ => judgeTells_lifted os started H enc)

end Go.Proofs.Ytbpmkidaoemebaa.K
