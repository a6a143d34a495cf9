/-
  GcOn: the row.
  No condition but the premises that each theorem names.
-/
import Derived.Test.YtnmkffkalnkbbaaRows
import Derived.Test.YtnmkffkalnkbbaaOpensG
import Derived.Test.YtnmkffkalnkbbaaLGon
namespace Go.Proofs.Ytnmkffkalnkbbaa.K
open Go Go.RowKit
set_option linter.unusedVariables false
set_option linter.unusedSimpArgs false

open Pl Go.ChangeShapes Go.WideShapes Go.ChangeAt
set_option maxRecDepth 100000 in
theorem gcOn_lifted (os : Os) (started : os.Started) (H : Type) (enc : TypeId × Value → H) :
    ReturnsInHanded {} Try.checked os 8 .any (Rows.gcOnSpec.pre6 enc Try.prog Try.f8 Rows.gcOnRow.domain false) (Rows.gcOnSpec.post enc Try.prog Try.f8 false true false false) := by
  refine returnsInHanded_of_change (C := Try.checked) own started (by kernel_rfl) Try.func8
    (ChangeSpec.witness6 (enc := enc) (C := Try.checked) false ⟨#[], #[.slice none 0 0, .int .u32 0, .agg #[.int .u8 0, .int .u8 0]], []⟩ 8 (by kernel_rfl) (by kernel_rfl) (by kernel_rfl) (by kernel_rfl)) ?_
  intro W base args ds gs before hval0 hW _ _
  have hval : ∀ (j : Nat) t v, Try.f8.params[j]? = some t → args[j]? = some v → Value.okWide Try.prog W .any base t v := hval0
  have hW' := hW
  obtain ⟨p, q, hA0, hV, hpq, _, _⟩ := hW
  have hA : DataW.TrodAll enc Try.prog W 0 (fun _ => true) true Try.f8.params.toList args.toList ds p := hA0
  rw [Try.params8] at hA hval
  obtain ⟨v0, v1, v2, d0, d1, d2, p0, p1, p2, rfl, rfl, _, t0, t1, t2⟩ := trodAll_three hA
  obtain ⟨rfl, _⟩ := trodVars_none hV
  obtain ⟨l0, hl0⟩ := arg_slice Try.underlying22 (hval 0 22 v0 rfl rfl) t0 (ope_ops W)
  obtain ⟨n1, rfl, rfl, _, wn1⟩ := open_int Try.underlying23 (hval 1 23 v1 rfl rfl) t1
  have hn1 : 0 ≤ n1 ∧ n1 ≤ 4294967295 := by simpa [Lit.wf, IntKind.min, IntKind.max, IntKind.signed, IntKind.bits] using wn1
  obtain ⟨m2, n2, rfl, hm2, hn2⟩ := open_u8x2 Try.underlying50 Try.underlying5 (by kernel_rfl) (by kernel_rfl) (hval 2 50 v2 rfl rfl) t2
  refine (L09_GcOn_c (fullG W) W (Holds.full W) v0 l0 hl0 n1 hn1 m2 n2 hm2 hn2).mono fun e W' ⟨he, hB⟩ => ?_
  exact ⟨_, he, post_true (P := Try.prog) (tb := 4) hW' kids slfull (by rw [Try.params8]; decide) rfl rfl Try.underlying4 rfl rfl rfl hB⟩
theorem gcOn : Rows.GcOnSaid :=
  OpenClaim.holds_of_wide 8 Try.f8 rfl rfl rfl rfl rfl rfl rfl ⟨rfl, rfl, rfl, rfl, rfl⟩ rfl rfl rfl rfl rfl (by kernel_rfl) Try.func8 (by kernel_rfl)
    (of_decide_eq_true (by kernel_rfl)) (by unfold Func.isWrapper; first | (rw [if_pos (by decide +kernel)]; kernel_rfl) | (rw [if_neg (by decide +kernel)]; exact ⟨rfl, rfl⟩))
    (fun os started H enc _ => gcOn_lifted os started H enc)

end Go.Proofs.Ytnmkffkalnkbbaa.K
