/-
  The walk of WfmTells.
  No condition but the premises that each theorem names.
-/
import Derived.Test.YtegjmfcfjedfjaaLaw17
namespace Go.Proofs.Ytegjmfcfjedfjaa.K
open Go Go.RowKit
set_option linter.unusedVariables false
set_option linter.unusedSimpArgs false

open Pl

set_option maxRecDepth 100000 in
set_option maxHeartbeats 1000000 in

theorem L17_WfmTells_c (G : GH) (w0 : World) (hG : Holds G w0) (va vr : Value) (atoms : List (List Cell)) (rs : List Rule) (h1 : RSl 1 EAtom G va atoms) (h2 : RSl 3 ERule G vr rs) (vso : Value) (so : List Bool) (h3 : RSl 1 EBool G vso so) (vm : Value) (m : List Int) (h4 : RSl 1 EInt G vm m)  :
    Calls Try.prog 3 #[.agg #[va, vr], vso, vm] w0 (Sc w0 (.bool true)) := by
  obtain ⟨oA, cA, rfl, hlA, hmA⟩ := h1.elim
  obtain ⟨oR, cR, rfl, hlR, hmR⟩ := h2.elim
  obtain ⟨oS, cS, rfl, hlS, hmS⟩ := h3.elim
  obtain ⟨oM, cM, rfl, hlM, hmM⟩ := h4.elim
  refine enter Try.func3 rfl (N := 39) rfl (Nat.le_of_ble_eq_true rfl) ?_
  have hS := SS.init hG
  refine cw_seq ?_
  refine cw_region ?_
  -- r0.0 t3 := box [25] t0
  refine ol_step rfl (op_box hS rfl rfl) ?_
  clear hS
  rintro _ w ⟨b3, rfl, hS⟩
  -- r0.1 t6 := assign  Cfalse
  refine ol_pure rfl (op_assign rfl) ?_
  refine ol_nil ?_
  refine pq_then ?_
  refine cw_seq ?_
  refine cw_region ?_
  -- r1.0 t8 := call f12 
  refine ol_step rfl (op_call_sc hS cf_12 rfl (L17_head_c G _ hS.hold)) ?_
  clear hS
  rintro _ w ⟨rfl, hS⟩
  -- r1.1 t7 := assign  t8
  refine ol_pure rfl (op_assign rfl) ?_
  refine ol_nil ?_
  refine pq_then ?_
  refine cw_seq ?_
  refine cw_seq ?_
  refine cw_region ?_
  -- r2.0 t9 := load [25] t3
  refine ol_load rfl (op_loadN agg_25 rfl (by rfl) (fun w hw k u hk => (hw.bcell (i := 0) rfl).trans hk)) hS ?_
  -- r2.1 t10 := call f13 t9
  refine ol_step rfl (op_call_sc hS cf_13 rfl (L17_may_c G _ hS.hold _ _ atoms rs h1 h2)) ?_
  clear hS
  rintro _ w ⟨rfl, hS⟩
  -- r2.2 t11 := not t10
  refine ol_pure rfl (op_not rfl) ?_
  refine ol_nil ?_
  refine pq_then ?_
  refine cw_cond rfl (fun h11 => ?_) (fun h11 => ?_)
  · skip
    try simp only [decide_eq_true_eq, decide_eq_false_iff_not, Bool.not_eq_true', Bool.not_eq_false', Bool.not_eq_eq_eq_not, Bool.not_true, Bool.not_false] at h11
    refine cw_seq ?_
    refine cw_region ?_
    -- r3.0 t12 := move  t7
    refine ol_pure rfl (op_move rfl) ?_
    -- r3.1 t6 := assign  t12
    refine ol_pure rfl (op_assign rfl) ?_
    refine ol_nil ?_
    refine pq_then ?_
    refine cw_ret ?_
    refine pq_ret ?_
    refine ret1 rfl rfl ?_
    -- ret1 h11t
    exact hS.sc_b rfl
  · skip
    try simp only [decide_eq_true_eq, decide_eq_false_iff_not, Bool.not_eq_true', Bool.not_eq_false', Bool.not_eq_eq_eq_not, Bool.not_true, Bool.not_false] at h11
    have hmay : fewP atoms rs = true ∧ RightP atoms rs := by
      rw [Bool.and_eq_true, rightPB_iff] at h11
      exact h11
    have hP := PrOk.of_may hmay.1 hmay.2
    have hle := Le.refl G
    refine cw_skip ?_
    refine pq_then ?_
    refine cw_seq ?_
    refine al_start' hS (hS.take 1) (by kernel_rfl) rfl (fun w hS hT => ?_)
    -- r4.0 t13 := load [25] t3
    refine al_load (i := 0) rfl (by kernel_rfl) (by kernel_rfl) (by kernel_rfl) rfl (fun _ _ _ h => h) (by exact op_loadN agg_25 rfl (by rfl) (fun w hw k u hk => (hw.bcell (i := 0) rfl).trans hk)) rfl hT ?_
    -- r4.1 t14 := move  t1
    refine al_take (i := 1) rfl (by kernel_rfl) (by kernel_rfl) (by kernel_rfl) rfl (fun _ _ _ h => h) (op_move rfl) rfl ?_
    -- r4.3 t16 := load [25] t3
    refine al_load (i := 3) rfl (by kernel_rfl) (by kernel_rfl) (by kernel_rfl) rfl (fun _ _ _ h => h) (by exact op_loadN agg_25 rfl (by rfl) (fun w hw k u hk => (hw.bcell (i := 0) rfl).trans hk)) rfl hT ?_
    -- r4.4 t17 := move  t1
    refine al_take (i := 4) rfl (by kernel_rfl) (by kernel_rfl) (by kernel_rfl) rfl (fun _ _ _ h => h) (op_move rfl) rfl ?_
    refine al_step (i := 2) rfl (by kernel_rfl) rfl (op_call_fr hS cf_15 rfl (wfm_Least_c _ _ hS.hold EAtom.mono _ _ atoms rs (h1.mono EAtom.mono hle) (h2.mono ERule.mono hle) hP _ so (h3.mono EBool.mono hle))) ?_
    clear hS
    rintro v15 w ⟨F15, G15, hR15, hF15, hf15, hl15, hS⟩
    obtain ⟨o15, c15, rfl, _, _⟩ := hR15.elimN (gam_len _ _ _)
    have hle := hle.trans hl15
    replace hR15 := hR15.mono EBool.mono hf15
    have hT := hT.back hS (by first | exact Le.refl _ | assumption) (fun x hx => by try simp only [List.take_succ_cons, List.take_zero, List.mem_cons, List.not_mem_nil, or_false] at hx; (rcases hx with rfl) <;> simp)
    refine ⟨fun _ _ => hT, ?_⟩
    refine al_step (i := 5) rfl (by kernel_rfl) rfl (op_call_fr hS cf_16 rfl (R17_Least_c _ _ hS.hold EAtom.mono _ _ atoms rs (h1.mono EAtom.mono hle) (h2.mono ERule.mono hle) hP _ so (h3.mono EBool.mono hle))) ?_
    clear hS
    rintro v18 w ⟨F18, G18, hR18, hF18, hf18, hl18, hS⟩
    obtain ⟨o18, c18, rfl, _, _⟩ := hR18.elimN (gam_len _ _ _)
    have hle := hle.trans hl18
    replace hR15 := hR15.mono EBool.mono hl18
    replace hR18 := hR18.mono EBool.mono hf18
    have hT := hT.back hS (by first | exact Le.refl _ | assumption) (fun x hx => by try simp only [List.take_succ_cons, List.take_zero, List.mem_cons, List.not_mem_nil, or_false] at hx; (rcases hx with rfl) <;> simp)
    refine ⟨fun _ _ => hT, ?_⟩
    refine al_step (i := 6) rfl (by kernel_rfl) rfl (op_call_sc hS cf_14 rfl (calls_t (by simp) (R17_Bools_c _ _ hS.hold _ _ _ _ hR15 hR18))) ?_
    clear hS
    rintro _ w ⟨rfl, hS⟩
    have hT := hT.back hS (by first | exact Le.refl _ | assumption) (fun x hx => by try simp only [List.take_succ_cons, List.take_zero, List.mem_cons, List.not_mem_nil, or_false] at hx; (rcases hx with rfl) <;> simp)
    refine ⟨fun _ _ => hT, ?_⟩
    -- r4.7 t20 := move  t19
    refine al_take (i := 7) rfl (by kernel_rfl) (by kernel_rfl) (by kernel_rfl) rfl (fun _ _ _ h => h) (op_move rfl) rfl ?_
    -- r4.8 t21 := load [25] t3 ?7=True
    refine al_gload (i := 8) rfl (by kernel_rfl) (by kernel_rfl) (by kernel_rfl) rfl rfl rfl (fun _ _ _ h => h) (by exact op_loadN agg_25 rfl (by rfl) (fun w hw k u hk => (hw.bcell (i := 0) rfl).trans hk)) rfl hT ?_
    -- r4.10 t23 := load [25] t3 ?7=True
    refine al_gload (i := 10) rfl (by kernel_rfl) (by kernel_rfl) (by kernel_rfl) rfl rfl rfl (fun _ _ _ h => h) (by exact op_loadN agg_25 rfl (by rfl) (fun w hw k u hk => (hw.bcell (i := 0) rfl).trans hk)) rfl hT ?_
    refine al_gstep (i := 9) rfl (by kernel_rfl) rfl rfl rfl (op_call_fr hS cf_18 rfl (wfm_Model_c _ _ hS.hold EAtom.mono _ _ atoms rs (h1.mono EAtom.mono hle) (h2.mono ERule.mono hle) hP)) ?_
    clear hS
    rintro v22 w ⟨F22, G22, hR22, hF22, hf22, hl22, hS⟩
    obtain ⟨o22, c22, rfl, _, _⟩ := hR22.elimN (modelI_len _ _)
    have hle := hle.trans hl22
    replace hR22 := hR22.mono EInt.mono hf22
    have hT := hT.back hS (by first | exact Le.refl _ | assumption) (fun x hx => by try simp only [List.take_succ_cons, List.take_zero, List.mem_cons, List.not_mem_nil, or_false] at hx; (rcases hx with rfl) <;> simp)
    refine ⟨fun _ _ => hT, ?_⟩
    refine al_gstep (i := 11) rfl (by kernel_rfl) rfl rfl rfl (op_call_fr hS cf_19 rfl (R17_Model_c _ _ hS.hold EAtom.mono _ _ atoms rs (h1.mono EAtom.mono hle) (h2.mono ERule.mono hle) hP)) ?_
    clear hS
    rintro v24 w ⟨F24, G24, hR24, hF24, hf24, hl24, hS⟩
    obtain ⟨o24, c24, rfl, _, _⟩ := hR24.elimN (modelI_len _ _)
    have hle := hle.trans hl24
    replace hR22 := hR22.mono EInt.mono hl24
    replace hR24 := hR24.mono EInt.mono hf24
    have hT := hT.back hS (by first | exact Le.refl _ | assumption) (fun x hx => by try simp only [List.take_succ_cons, List.take_zero, List.mem_cons, List.not_mem_nil, or_false] at hx; (rcases hx with rfl) <;> simp)
    refine ⟨fun _ _ => hT, ?_⟩
    refine al_gstep (i := 12) rfl (by kernel_rfl) rfl rfl rfl (op_call_sc hS cf_17 rfl (calls_t (by simp) (R17_Ints_c _ _ hS.hold _ _ _ _ hR22 hR24))) ?_
    clear hS
    rintro _ w ⟨rfl, hS⟩
    have hT := hT.back hS (by first | exact Le.refl _ | assumption) (fun x hx => by try simp only [List.take_succ_cons, List.take_zero, List.mem_cons, List.not_mem_nil, or_false] at hx; (rcases hx with rfl) <;> simp)
    refine ⟨fun _ _ => hT, ?_⟩
    -- r4.13 t26 := pick  t20 t25 Cfalse
    refine al_take (i := 13) rfl (by kernel_rfl) (by kernel_rfl) (by kernel_rfl) rfl (fun _ _ _ h => h) (op_pick_t rfl rfl) rfl ?_
    -- r4.14 t27 := move  t26
    refine al_take (i := 14) rfl (by kernel_rfl) (by kernel_rfl) (by kernel_rfl) rfl (fun _ _ _ h => h) (op_move rfl) rfl ?_
    -- r4.15 t28 := load [25] t3 ?14=True
    refine al_gload (i := 15) rfl (by kernel_rfl) (by kernel_rfl) (by kernel_rfl) rfl rfl rfl (fun _ _ _ h => h) (by exact op_loadN agg_25 rfl (by rfl) (fun w hw k u hk => (hw.bcell (i := 0) rfl).trans hk)) rfl hT ?_
    -- r4.16 t29 := move  t2 ?14=True
    refine al_gtake (i := 16) rfl (by kernel_rfl) (by kernel_rfl) (by kernel_rfl) rfl rfl rfl (fun _ _ _ h => h) (op_move rfl) rfl ?_
    -- r4.18 t31 := load [25] t3 ?14=True
    refine al_gload (i := 18) rfl (by kernel_rfl) (by kernel_rfl) (by kernel_rfl) rfl rfl rfl (fun _ _ _ h => h) (by exact op_loadN agg_25 rfl (by rfl) (fun w hw k u hk => (hw.bcell (i := 0) rfl).trans hk)) rfl hT ?_
    -- r4.19 t32 := move  t2 ?14=True
    refine al_gtake (i := 19) rfl (by kernel_rfl) (by kernel_rfl) (by kernel_rfl) rfl rfl rfl (fun _ _ _ h => h) (op_move rfl) rfl ?_
    refine al_gstep (i := 17) rfl (by kernel_rfl) rfl rfl rfl (op_call_fr hS cf_20 rfl (wfm_Unfounded_c _ _ hS.hold EAtom.mono _ _ atoms rs (h1.mono EAtom.mono hle) (h2.mono ERule.mono hle) hP _ m (h4.mono EInt.mono hle))) ?_
    clear hS
    rintro v30 w ⟨F30, G30, hR30, hF30, hf30, hl30, hS⟩
    obtain ⟨o30, c30, rfl, _, _⟩ := hR30.elimN (rfl)
    have hle := hle.trans hl30
    replace hR30 := hR30.mono EInt.mono hf30
    have hT := hT.back hS (by first | exact Le.refl _ | assumption) (fun x hx => by try simp only [List.take_succ_cons, List.take_zero, List.mem_cons, List.not_mem_nil, or_false] at hx; (rcases hx with rfl) <;> simp)
    refine ⟨fun _ _ => hT, ?_⟩
    refine al_gstep (i := 20) rfl (by kernel_rfl) rfl rfl rfl (op_call_fr hS cf_21 rfl (R17_Unfounded_c _ _ hS.hold EAtom.mono _ _ atoms rs (h1.mono EAtom.mono hle) (h2.mono ERule.mono hle) hP _ m (h4.mono EInt.mono hle))) ?_
    clear hS
    rintro v33 w ⟨F33, G33, hR33, hF33, hf33, hl33, hS⟩
    obtain ⟨o33, c33, rfl, _, _⟩ := hR33.elimN (rfl)
    have hle := hle.trans hl33
    replace hR30 := hR30.mono EInt.mono hl33
    replace hR33 := hR33.mono EInt.mono hf33
    have hT := hT.back hS (by first | exact Le.refl _ | assumption) (fun x hx => by try simp only [List.take_succ_cons, List.take_zero, List.mem_cons, List.not_mem_nil, or_false] at hx; (rcases hx with rfl) <;> simp)
    refine ⟨fun _ _ => hT, ?_⟩
    refine al_gstep (i := 21) rfl (by kernel_rfl) rfl rfl rfl (op_call_sc hS cf_17 rfl (calls_t (by simp) (R17_Ints_c _ _ hS.hold _ _ _ _ hR30 hR33))) ?_
    clear hS
    rintro _ w ⟨rfl, hS⟩
    have hT := hT.back hS (by first | exact Le.refl _ | assumption) (fun x hx => by try simp only [List.take_succ_cons, List.take_zero, List.mem_cons, List.not_mem_nil, or_false] at hx; (rcases hx with rfl) <;> simp)
    refine ⟨fun _ _ => hT, ?_⟩
    -- r4.22 t35 := pick  t27 t34 Cfalse
    refine al_take (i := 22) rfl (by kernel_rfl) (by kernel_rfl) (by kernel_rfl) rfl (fun _ _ _ h => h) (op_pick_t rfl rfl) rfl ?_
    -- r4.23 t36 := move  t35
    refine al_take (i := 23) rfl (by kernel_rfl) (by kernel_rfl) (by kernel_rfl) rfl (fun _ _ _ h => h) (op_move rfl) rfl ?_
    -- r4.24 t37 := move  t7 ?23=True
    refine al_gtake (i := 24) rfl (by kernel_rfl) (by kernel_rfl) (by kernel_rfl) rfl rfl rfl (fun _ _ _ h => h) (op_move rfl) rfl ?_
    -- r4.25 t38 := pick  t36 t37 Cfalse
    refine al_take (i := 25) rfl (by kernel_rfl) (by kernel_rfl) (by kernel_rfl) rfl (fun _ _ _ h => h) (op_pick_t rfl rfl) rfl ?_
    -- r4.26 t6 := assign  t38
    refine al_take (i := 26) rfl (by kernel_rfl) (by kernel_rfl) (by kernel_rfl) rfl (fun _ _ _ h => h) (op_assign rfl) rfl ?_
    refine al_done (by kernel_rfl) ?_
    refine pq_then ?_
    refine cw_ret ?_
    refine ret1 rfl rfl ?_
    -- ret2 h11f
    exact hS.sc_b rfl
end Go.Proofs.Ytegjmfcfjedfjaa.K
