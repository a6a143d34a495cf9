/-
  JudgeParts: the row.
  No condition but the premises that each theorem names.
-/
import Derived.Test.YtbpmkidaoemebaaRows
import Derived.Test.YtbpmkidaoemebaaOpensJ
import Derived.Test.YtbpmkidaoemebaaLJparts
namespace Go.Proofs.Ytbpmkidaoemebaa.K
open Go Go.RowKit
set_option linter.unusedVariables false
set_option linter.unusedSimpArgs false

open Pl Go.ChangeShapes Go.WideShapes Go.ChangeAt
set_option maxRecDepth 100000 in
theorem judgeParts_lifted (os : Os) (started : os.Started) (H : Type) (enc : TypeId × Value → H) :
    ReturnsInHanded {} Try.checked os 5 .any (Rows.judgePartsSpec.pre6 enc Try.prog Try.f5 Rows.judgePartsRow.domain false) (Rows.judgePartsSpec.post enc Try.prog Try.f5 false true false false) := by
  refine returnsInHanded_of_change (C := Try.checked) own started (by kernel_rfl) Try.func5
    (ChangeSpec.witness6 (enc := enc) (C := Try.checked) false ⟨#[], #[.agg #[.slice none 0 0, .slice none 0 0], .slice none 0 0, .int .u8 0], []⟩ 8 (by kernel_rfl) (by kernel_rfl) (by kernel_rfl) (by kernel_rfl)) ?_
  intro W base args ds gs before hval0 hW _ _
  have hval : ∀ (j : Nat) t v, Try.f5.params[j]? = some t → args[j]? = some v → Value.okWide Try.prog W .any base t v := hval0
  have hW' := hW
  obtain ⟨p, q, hA0, hV, hpq, _, _⟩ := hW
  have hA : DataW.TrodAll enc Try.prog W 0 (fun _ => true) true Try.f5.params.toList args.toList ds p := hA0
  rw [Try.params5] at hA hval
  obtain ⟨v0, v1, v2, d0, d1, d2, p0, p1, p2, rfl, rfl, _, t0, t1, t2⟩ := trodAll_three hA
  obtain ⟨rfl, _⟩ := trodVars_none hV
  obtain ⟨cs0, ⟨atoms0, rs0⟩, rfl, va0, vr0, rfl, xA0, xR0⟩ := arg_agg Try.underlying25 (hval 0 25 v0 rfl rfl) t0 (ope_prog W)
  obtain ⟨l1, hl1⟩ := arg_slice Try.underlying28 (hval 1 28 v1 rfl rfl) t1 (ope_steps W)
  obtain ⟨n2, rfl, rfl, _, wn2⟩ := open_int Try.underlying5 (hval 2 5 v2 rfl rfl) t2
  have hn2 : 0 ≤ n2 ∧ n2 ≤ 255 := by simpa [Lit.wf, IntKind.min, IntKind.max, IntKind.signed, IntKind.bits] using wn2
  refine (L22_JudgeParts_c (fullG W) W (Holds.full W) va0 vr0 atoms0 rs0 xA0 xR0 v1 l1 hl1 n2 hn2).mono fun e W' ⟨he, hB⟩ => ?_
  exact ⟨_, he, post_true (P := Try.prog) (tb := 4) hW' kids slfull (by rw [Try.params5]; decide) rfl rfl Try.underlying4 rfl rfl rfl hB⟩
theorem judgeParts : Rows.JudgePartsSaid :=
  OpenClaim.holds_of_wide 5 Try.f5 rfl rfl rfl rfl rfl rfl rfl ⟨rfl, rfl, rfl, rfl, rfl⟩ rfl rfl rfl rfl rfl (by kernel_rfl) Try.func5 (by kernel_rfl)
    (of_decide_eq_true (by kernel_rfl)) (by unfold Func.isWrapper; first | (rw [if_pos (by decide +kernel)]; kernel_rfl) | (rw [if_neg (by decide +kernel)]; exact ⟨rfl, rfl⟩))
    (fun os started H enc _ => judgeParts_lifted os started H enc)

end Go.Proofs.Ytbpmkidaoemebaa.K
