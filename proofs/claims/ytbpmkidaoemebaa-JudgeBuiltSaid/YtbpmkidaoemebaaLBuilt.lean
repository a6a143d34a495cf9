/-
  The walk of JudgeBuilt.
  No condition but the premises that each theorem names.
-/
import Derived.Test.YtbpmkidaoemebaaLaw22b
namespace Go.Proofs.Ytbpmkidaoemebaa.K
open Go Go.RowKit
set_option linter.unusedVariables false
set_option linter.unusedSimpArgs false

open Pl

set_option maxRecDepth 100000 in
set_option maxHeartbeats 1000000 in

theorem L22_JudgeBuilt_c (G : GH) (w0 : World) (hG : Holds G w0) (va vr : Value) (atoms : List (List Cell)) (rs : List Rule) (h1 : RSl 1 EAtom G va atoms) (h2 : RSl 3 ERule G vr rs)  :
    Calls Try.prog 3 #[.agg #[va, vr]] w0 (Sc w0 (.bool true)) := by
  obtain ⟨oA, cA, rfl, hlA, hmA⟩ := h1.elim
  obtain ⟨oR, cR, rfl, hlR, hmR⟩ := h2.elim
  refine enter Try.func3 rfl (N := 43) rfl (Nat.le_of_ble_eq_true rfl) ?_
  have hS := SS.init hG
  refine cw_seq ?_
  refine cw_region ?_
  -- r0.0 t1 := box [25] t0
  refine ol_step rfl (op_box hS rfl rfl) ?_
  clear hS
  rintro _ w ⟨b1, rfl, hS⟩
  -- r0.1 t2 := assign  Cfalse
  refine ol_pure rfl (op_assign rfl) ?_
  refine ol_nil ?_
  refine pq_then ?_
  refine cw_seq ?_
  refine cw_region ?_
  -- r1.0 t8 := call f11 
  refine ol_step rfl (op_call_sc hS cf_11 rfl (L22_head_c G _ hS.hold)) ?_
  clear hS
  rintro _ w ⟨rfl, hS⟩
  -- r1.1 t3 := assign  t8
  refine ol_pure rfl (op_assign rfl) ?_
  refine ol_nil ?_
  refine pq_then ?_
  refine cw_seq ?_
  refine cw_seq ?_
  refine cw_region ?_
  -- r2.0 t9 := load [25] t1
  refine ol_load rfl (op_loadN agg_25 rfl (by rfl) (fun w hw k u hk => (hw.bcell (i := 0) rfl).trans hk)) hS ?_
  -- r2.1 t10 := build [31] 
  refine ol_pure rfl (op_build (is := []) (xs := []) (v := .agg #[.slice none 0 0, .slice none 0 0]) rfl rfl (fun w => by kernel_rfl)) ?_
  -- r2.2 t11 := call f12 t9 t10
  refine ol_step rfl (op_call_sc hS cf_12 rfl (L22_great_c G _ hS.hold _ _ atoms rs h1 h2 _ _ [] [] (RSl.nil _) (RSl.nil _))) ?_
  clear hS
  rintro _ w ⟨rfl, hS⟩
  refine ol_nil ?_
  refine pq_then ?_
  refine cw_cond rfl (fun h11 => ?_) (fun h11 => ?_)
  · skip
    try simp only [decide_eq_true_eq, decide_eq_false_iff_not, Bool.not_eq_true', Bool.not_eq_false', Bool.not_eq_eq_eq_not, Bool.not_true, Bool.not_false] at h11
    refine cw_seq ?_
    refine cw_region ?_
    -- r3.0 t12 := move  t3
    refine ol_pure rfl (op_move rfl) ?_
    -- r3.1 t2 := assign  t12
    refine ol_pure rfl (op_assign rfl) ?_
    refine ol_nil ?_
    refine pq_then ?_
    refine cw_ret ?_
    refine pq_ret ?_
    refine ret1 rfl rfl ?_
    -- ret1 h11t
    exact hS.sc_b rfl
  · skip
    try simp only [decide_eq_true_eq, decide_eq_false_iff_not, Bool.not_eq_true', Bool.not_eq_false', Bool.not_eq_eq_eq_not, Bool.not_true, Bool.not_false] at h11
    have hgr := greatB_f h11
    have hP := PrOk.of_great hgr.1 hgr.2.1
    have hPn := hP.n_le
    have hPm := hP.m_le
    have hle0 := Le.refl G
    have hbt := built hP
    have hbm := built_model hP
    have hml : (stepsI atoms.length rs).2.length = atoms.length := (steps_built hP).1.sound.len
    refine cw_skip ?_
    refine pq_then ?_
    refine cw_seq ?_
    refine cw_region ?_
    -- r4.0 t14 := load [25] t1
    refine ol_load rfl (op_loadN agg_25 rfl (by rfl) (fun w hw k u hk => (hw.bcell (i := 0) rfl).trans hk)) hS ?_
    -- r4.1 t15 := call f13 t14
    refine ol_step rfl (op_call_rt hS cf_13 rfl (fun _ => .inr rfl) (fun _ _ _ hl ⟨a, b, e1, e2, e3⟩ => ⟨a, b, e1, e2.mono EStep.mono hl, e3.mono EInt.mono hl⟩) (L22_steps_c _ _ hS.hold EAtom.mono _ _ atoms rs (h1.mono EAtom.mono hle0) (h2.mono ERule.mono hle0) hP)) ?_
    clear hS
    rintro v15 w ⟨G15, hl15, hR15, hS⟩
    obtain ⟨vl, vm, rfl, hL, hM⟩ := hR15
    obtain ⟨oL, cL, rfl, _, _⟩ := hL.elim
    -- r4.2 t13 := move  t15
    refine ol_pure rfl (op_move rfl) ?_
    -- r4.3 t16 := extract [0] t13
    refine ol_pure rfl (op_extract (vs := [.slice oL (stepsI atoms.length rs).1.length cL, vm]) rfl rfl) ?_
    -- r4.4 t17 := extract [1] t13
    refine ol_pure rfl (op_extract (vs := [.slice oL (stepsI atoms.length rs).1.length cL, vm]) rfl rfl) ?_
    -- r4.5 t4 := assign  t16
    refine ol_pure rfl (op_assign rfl) ?_
    -- r4.6 t5 := assign  t17
    refine ol_pure rfl (op_assign rfl) ?_
    refine ol_nil ?_
    refine pq_then ?_
    refine cw_seq ?_
    refine al_start' hS (hS.take 1) (by kernel_rfl) rfl (fun w hS hT => ?_)
    -- r5.0 t19 := load [25] t1
    refine al_load (i := 0) rfl (by kernel_rfl) (by kernel_rfl) (by kernel_rfl) rfl (fun _ _ _ h => h) (by exact op_loadN agg_25 rfl (by rfl) (fun w hw k u hk => (hw.bcell (i := 0) rfl).trans hk)) rfl hT ?_
    -- r5.1 t20 := move  t4
    refine al_take (i := 1) rfl (by kernel_rfl) (by kernel_rfl) (by kernel_rfl) rfl (fun _ _ _ h => h) (op_move rfl) rfl ?_
    -- r5.2 t21 := load [25] t1
    refine al_load (i := 2) rfl (by kernel_rfl) (by kernel_rfl) (by kernel_rfl) rfl (fun _ _ _ h => h) (by exact op_loadN agg_25 rfl (by rfl) (fun w hw k u hk => (hw.bcell (i := 0) rfl).trans hk)) rfl hT ?_
    -- r5.3 t22 := move  t5
    refine al_take (i := 3) rfl (by kernel_rfl) (by kernel_rfl) (by kernel_rfl) rfl (fun _ _ _ h => h) (op_move rfl) rfl ?_
    refine al_step (i := 4) rfl (by kernel_rfl) rfl (op_call_fr hS cf_15 rfl (L22_holds_c _ _ hS.hold _ _ atoms rs (h1.mono EAtom.mono hl15) (h2.mono ERule.mono hl15) hP _ (stepsI atoms.length rs).2 hM hml)) ?_
    clear hS
    rintro v23 w ⟨F23, G23, hR23, hF23, hf23, hl23, hS⟩
    have hl23b := hl15.trans hl23
    obtain ⟨oH, cH, rfl, _, _⟩ := hR23.elim
    have hT := hT.back hS (by first | exact Le.refl _ | assumption) (fun x hx => by try simp only [List.take_succ_cons, List.take_zero, List.mem_cons, List.not_mem_nil, or_false] at hx; (rcases hx with rfl) <;> simp)
    refine ⟨fun _ _ => hT, ?_⟩
    -- r5.5 t24 := build [31] 0:t20 1:t23
    refine al_take (i := 5) rfl (by kernel_rfl) (by kernel_rfl) (by kernel_rfl) rfl (fun _ _ _ h => h) (op_build (is := [0, 1]) (xs := [.tmp 20, .tmp 23]) (v := .agg #[.slice oL (stepsI atoms.length rs).1.length cL, .slice oH (holdsI atoms.length rs (stepsI atoms.length rs).2).length cH]) rfl rfl (fun w => by kernel_rfl)) rfl ?_
    refine al_step (i := 6) rfl (by kernel_rfl) rfl (op_call_fr hS cf_14 rfl (judge_Check_c _ _ hS.hold _ _ atoms rs (h1.mono EAtom.mono hl23b) (h2.mono ERule.mono hl23b) hP _ _ (stepsI atoms.length rs).1 (holdsI atoms.length rs (stepsI atoms.length rs).2) (hL.mono EStep.mono hl23) (hR23.mono EInt.mono hf23))) ?_
    clear hS
    rintro v25 w ⟨F25, G25, hR25, hF25, hf25, hl25, hS⟩
    obtain ⟨vn, hv, hN⟩ := hR25
    rw [hbt] at hv hN
    simp only [Option.isSome_some, Option.getD_some] at hv hN
    subst hv
    have hl25b := hl23b.trans hl25
    have hl25c := hl23.trans hl25
    replace hN := hN.mono EInt.mono hf25
    replace hM := (hM.mono EInt.mono hl23).mono EInt.mono hl25
    have hT := hT.back hS (by first | exact Le.refl _ | assumption) (fun x hx => by try simp only [List.take_succ_cons, List.take_zero, List.mem_cons, List.not_mem_nil, or_false] at hx; (rcases hx with rfl) <;> simp)
    refine ⟨fun _ _ => hT, ?_⟩
    -- r5.7 t18 := move  t25
    refine al_take (i := 7) rfl (by kernel_rfl) (by kernel_rfl) (by kernel_rfl) rfl (fun _ _ _ h => h) (op_move rfl) rfl ?_
    -- r5.8 t26 := extract [0] t18
    refine al_take (i := 8) rfl (by kernel_rfl) (by kernel_rfl) (by kernel_rfl) rfl (fun _ _ _ h => h) (op_extract (vs := [vn, .bool true]) rfl rfl) rfl ?_
    -- r5.9 t27 := extract [1] t18
    refine al_take (i := 9) rfl (by kernel_rfl) (by kernel_rfl) (by kernel_rfl) rfl (fun _ _ _ h => h) (op_extract (vs := [vn, .bool true]) rfl rfl) rfl ?_
    -- r5.10 t6 := assign  t26
    refine al_take (i := 10) rfl (by kernel_rfl) (by kernel_rfl) (by kernel_rfl) rfl (fun _ _ _ h => h) (op_assign rfl) rfl ?_
    -- r5.11 t7 := assign  t27
    refine al_take (i := 11) rfl (by kernel_rfl) (by kernel_rfl) (by kernel_rfl) rfl (fun _ _ _ h => h) (op_assign rfl) rfl ?_
    refine al_done (by kernel_rfl) ?_
    refine pq_then ?_
    refine cw_seq ?_
    refine cw_region ?_
    -- r6.0 t28 := move  t3
    refine ol_pure rfl (op_move rfl) ?_
    -- r6.1 t29 := move  t28
    refine ol_pure rfl (op_move rfl) ?_
    -- r6.2 t30 := move  t7 ?1=True
    refine ol_guard_pure rfl rfl rfl (op_move rfl) ?_
    -- r6.3 t31 := pick  t29 t30 Cfalse
    refine ol_pure rfl (op_pick_t rfl rfl) ?_
    -- r6.4 t32 := move  t31
    refine ol_pure rfl (op_move rfl) ?_
    -- r6.5 t33 := move  t6 ?4=True
    refine ol_guard_pure rfl rfl rfl (op_move rfl) ?_
    -- r6.6 t34 := move  t5 ?4=True
    refine ol_guard_pure rfl rfl rfl (op_move rfl) ?_
    -- r6.7 t35 := call f16 t33 t34 ?4=True
    refine ol_guard_step rfl rfl rfl (op_call_sc hS cf_16 rfl (calls_t (decide_eq_true rfl) (R07_Ints_c _ _ hS.hold _ _ (stepsI atoms.length rs).2 (stepsI atoms.length rs).2 hN hM))) ?_
    clear hS
    rintro _ w ⟨rfl, hS⟩
    -- r6.8 t36 := pick  t32 t35 Cfalse
    refine ol_pure rfl (op_pick_t rfl rfl) ?_
    -- r6.9 t37 := move  t36
    refine ol_pure rfl (op_move rfl) ?_
    -- r6.10 t38 := move  t6 ?9=True
    refine ol_guard_pure rfl rfl rfl (op_move rfl) ?_
    -- r6.11 t39 := load [25] t1 ?9=True
    refine ol_guard_load rfl rfl rfl (op_loadN agg_25 rfl (by rfl) (fun w hw k u hk => (hw.bcell (i := 0) rfl).trans hk)) hS ?_
    -- r6.12 t40 := call f17 t39 ?9=True
    refine ol_guard_step rfl rfl rfl (op_call_fr hS cf_17 rfl (wfm_Model_c _ _ hS.hold EAtom.mono _ _ atoms rs (h1.mono EAtom.mono hl25b) (h2.mono ERule.mono hl25b) hP)) ?_
    clear hS
    rintro v40 w ⟨F40, G40, hR40, hF40, hf40, hl40, hS⟩
    -- r6.13 t41 := call f16 t38 t40 ?9=True
    refine ol_guard_step rfl rfl rfl (op_call_sc hS cf_16 rfl (calls_t (decide_eq_true hbm) (R07_Ints_c _ _ hS.hold _ _ (stepsI atoms.length rs).2 (modelI atoms.length rs) (hN.mono EInt.mono hl40) (hR40.mono EInt.mono hf40)))) ?_
    clear hS
    rintro _ w ⟨rfl, hS⟩
    -- r6.14 t42 := pick  t37 t41 Cfalse
    refine ol_pure rfl (op_pick_t rfl rfl) ?_
    -- r6.15 t2 := assign  t42
    refine ol_pure rfl (op_assign rfl) ?_
    refine ol_nil ?_
    refine pq_then ?_
    refine cw_ret ?_
    refine ret1 rfl rfl ?_
    -- ret2 h11f
    exact hS.sc_b rfl
end Go.Proofs.Ytbpmkidaoemebaa.K
