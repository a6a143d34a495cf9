/-
  The walk of JudgeTells.
  No condition but the premises that each theorem names.
-/
import Derived.Test.YtbpmkidaoemebaaRef22
namespace Go.Proofs.Ytbpmkidaoemebaa.K
open Go Go.RowKit
set_option linter.unusedVariables false
set_option linter.unusedSimpArgs false

open Pl

set_option maxRecDepth 100000 in
set_option maxHeartbeats 1000000 in

theorem L22_JudgeTells_c (G : GH) (w0 : World) (hG : Holds G w0) (va vr : Value) (atoms : List (List Cell)) (rs : List Rule) (h1 : RSl 1 EAtom G va atoms) (h2 : RSl 3 ERule G vr rs) (vs vh : Value) (l : List Step) (hs : List Int) (h3 : RSl 2 EStep G vs l) (h4 : RSl 1 EInt G vh hs) :
    Calls Try.prog 4 #[.agg #[va, vr], .agg #[vs, vh]] w0 (Sc w0 (.bool true)) := by
  obtain ⟨oA, cA, rfl, hlA, hmA⟩ := h1.elim
  obtain ⟨oR, cR, rfl, hlR, hmR⟩ := h2.elim
  obtain ⟨oL, cL, rfl, hlL, hmL⟩ := h3.elim
  have hLle := h3.le
  obtain ⟨oH, cH, rfl, hlH, hmH⟩ := h4.elim
  refine enter Try.func4 rfl (N := 66) rfl (Nat.le_of_ble_eq_true rfl) ?_
  have hS := SS.init hG
  refine cw_seq ?_
  refine cw_region ?_
  -- r0.0 t2 := box [25] t0
  refine ol_step rfl (op_box hS rfl rfl) ?_
  clear hS
  rintro _ w ⟨b2, rfl, hS⟩
  -- r0.1 t3 := box [31] t1
  refine ol_step rfl (op_box hS rfl rfl) ?_
  clear hS
  rintro _ w ⟨b3, rfl, hS⟩
  -- r0.2 t4 := assign  Cfalse
  refine ol_pure rfl (op_assign rfl) ?_
  refine ol_nil ?_
  refine pq_then ?_
  refine cw_seq ?_
  refine cw_region ?_
  -- r1.0 t14 := call f11 
  refine ol_step rfl (op_call_sc hS cf_11 rfl (L22_head_c G _ hS.hold)) ?_
  clear hS
  rintro _ w ⟨rfl, hS⟩
  -- r1.1 t5 := assign  t14
  refine ol_pure rfl (op_assign rfl) ?_
  refine ol_nil ?_
  refine pq_then ?_
  refine cw_seq ?_
  refine cw_seq ?_
  refine cw_region ?_
  -- r2.0 t15 := load [25] t2
  refine ol_load rfl (op_loadN agg_25 rfl (by rfl) (fun w hw k u hk => (hw.bcell (i := 1) rfl).trans hk)) hS ?_
  -- r2.1 t16 := load [31] t3
  refine ol_load rfl (op_loadN agg_31 rfl (by rfl) (fun w hw k u hk => (hw.bcell (i := 0) rfl).trans hk)) hS ?_
  -- r2.2 t17 := call f12 t15 t16
  refine ol_step rfl (op_call_sc hS cf_12 rfl (L22_great_c G _ hS.hold _ _ atoms rs h1 h2 _ _ l hs h3 h4)) ?_
  clear hS
  rintro _ w ⟨rfl, hS⟩
  refine ol_nil ?_
  refine pq_then ?_
  refine cw_cond rfl (fun h17 => ?_) (fun h17 => ?_)
  · skip
    try simp only [decide_eq_true_eq, decide_eq_false_iff_not, Bool.not_eq_true', Bool.not_eq_false', Bool.not_eq_eq_eq_not, Bool.not_true, Bool.not_false] at h17
    refine cw_seq ?_
    refine cw_region ?_
    -- r3.0 t18 := move  t5
    refine ol_pure rfl (op_move rfl) ?_
    -- r3.1 t4 := assign  t18
    refine ol_pure rfl (op_assign rfl) ?_
    refine ol_nil ?_
    refine pq_then ?_
    refine cw_ret ?_
    refine pq_ret ?_
    refine ret1 rfl rfl ?_
    -- ret1 h17t
    exact hS.sc_b rfl
  · skip
    try simp only [decide_eq_true_eq, decide_eq_false_iff_not, Bool.not_eq_true', Bool.not_eq_false', Bool.not_eq_eq_eq_not, Bool.not_true, Bool.not_false] at h17
    have hgr := greatB_f h17
    have hP := PrOk.of_great hgr.1 hgr.2.1
    have hPn := hP.n_le
    have hPm := hP.m_le
    have hle0 := Le.refl G
    refine cw_skip ?_
    refine pq_then ?_
    refine cw_seq ?_
    refine cw_region ?_
    -- r4.0 t20 := load [25] t2
    refine ol_load rfl (op_loadN agg_25 rfl (by rfl) (fun w hw k u hk => (hw.bcell (i := 1) rfl).trans hk)) hS ?_
    -- r4.1 t21 := load [31] t3
    refine ol_load rfl (op_loadN agg_31 rfl (by rfl) (fun w hw k u hk => (hw.bcell (i := 0) rfl).trans hk)) hS ?_
    -- r4.2 t22 := call f14 t20 t21
    refine ol_step rfl (op_call_fr hS cf_14 rfl (judge_Check_c _ _ hS.hold _ _ atoms rs (h1.mono EAtom.mono hle0) (h2.mono ERule.mono hle0) hP _ _ l hs (h3.mono EStep.mono hle0) (h4.mono EInt.mono hle0))) ?_
    clear hS
    rintro v22 w ⟨F22, G22, hR22, hF22, hf22, hl22, hS⟩
    obtain ⟨vm22, hv, hA⟩ := hR22
    subst hv
    replace hA := hA.mono EInt.mono hf22
    
    -- r4.3 t19 := move  t22
    refine ol_pure rfl (op_move rfl) ?_
    -- r4.4 t23 := extract [0] t19
    refine ol_pure rfl (op_extract (vs := [vm22, .bool (checkI rs atoms.length l hs).isSome]) rfl rfl) ?_
    -- r4.5 t24 := extract [1] t19
    refine ol_pure rfl (op_extract (vs := [vm22, .bool (checkI rs atoms.length l hs).isSome]) rfl rfl) ?_
    -- r4.6 t6 := assign  t23
    refine ol_pure rfl (op_assign rfl) ?_
    -- r4.7 t7 := assign  t24
    refine ol_pure rfl (op_assign rfl) ?_
    refine ol_nil ?_
    refine pq_then ?_
    refine cw_seq ?_
    refine cw_region ?_
    -- r5.0 t26 := load [25] t2
    refine ol_load rfl (op_loadN agg_25 rfl (by rfl) (fun w hw k u hk => (hw.bcell (i := 1) rfl).trans hk)) hS ?_
    -- r5.1 t27 := load [31] t3
    refine ol_load rfl (op_loadN agg_31 rfl (by rfl) (fun w hw k u hk => (hw.bcell (i := 0) rfl).trans hk)) hS ?_
    -- r5.2 t28 := call f18 t26 t27
    refine ol_step rfl (op_call_fr hS cf_18 rfl (R22_Check_c _ _ hS.hold EAtom.mono _ _ atoms rs (h1.mono EAtom.mono hl22) (h2.mono ERule.mono hl22) hP _ _ l hs (h3.mono EStep.mono hl22) (h4.mono EInt.mono hl22))) ?_
    clear hS
    rintro v28 w ⟨F28, G28, hR28, hF28, hf28, hl28, hS⟩
    obtain ⟨vm28, hv, hB⟩ := hR28
    subst hv
    replace hB := hB.mono EInt.mono hf28
    
    -- r5.3 t25 := move  t28
    refine ol_pure rfl (op_move rfl) ?_
    -- r5.4 t29 := extract [0] t25
    refine ol_pure rfl (op_extract (vs := [vm28, .bool (checkI rs atoms.length l hs).isSome]) rfl rfl) ?_
    -- r5.5 t30 := extract [1] t25
    refine ol_pure rfl (op_extract (vs := [vm28, .bool (checkI rs atoms.length l hs).isSome]) rfl rfl) ?_
    -- r5.6 t8 := assign  t29
    refine ol_pure rfl (op_assign rfl) ?_
    -- r5.7 t9 := assign  t30
    refine ol_pure rfl (op_assign rfl) ?_
    refine ol_nil ?_
    refine pq_then ?_
    refine cw_seq ?_
    refine cw_region ?_
    -- r6.0 t32 := load [25] t2
    refine ol_load rfl (op_loadN agg_25 rfl (by rfl) (fun w hw k u hk => (hw.bcell (i := 1) rfl).trans hk)) hS ?_
    -- r6.1 t33 := fieldAddr [31, 0] t3
    refine ol_pure rfl (op_fieldAddr fld_31_0 rfl) ?_
    -- r6.2 t34 := load [28] t33
    refine ol_load rfl (op_load1 one_28 rfl (fun w hw => (hw.bcell (i := 0) rfl).trans rfl)) hS ?_
    -- r6.3 t35 := call f19 t32 t34
    refine ol_step rfl (op_call_fr hS cf_19 rfl (judge_Partly_c _ _ hS.hold _ _ atoms rs (h1.mono EAtom.mono (hl22.trans hl28)) (h2.mono ERule.mono (hl22.trans hl28)) hP _ l (h3.mono EStep.mono (hl22.trans hl28)))) ?_
    clear hS
    rintro v35 w ⟨F35, G35, hR35, hF35, hf35, hl35, hS⟩
    obtain ⟨vm35, hv, hM⟩ := hR35
    subst hv
    replace hM := hM.mono EInt.mono hf35
    
    -- r6.4 t31 := move  t35
    refine ol_pure rfl (op_move rfl) ?_
    -- r6.5 t36 := extract [0] t31
    refine ol_pure rfl (op_extract (vs := [vm35, .int .i64 ((partly rs (startI atoms.length) l).2 : Nat)]) rfl rfl) ?_
    -- r6.6 t37 := extract [1] t31
    refine ol_pure rfl (op_extract (vs := [vm35, .int .i64 ((partly rs (startI atoms.length) l).2 : Nat)]) rfl rfl) ?_
    -- r6.7 t10 := assign  t36
    refine ol_pure rfl (op_assign rfl) ?_
    -- r6.8 t11 := assign  t37
    refine ol_pure rfl (op_assign rfl) ?_
    refine ol_nil ?_
    refine pq_then ?_
    refine cw_seq ?_
    refine cw_region ?_
    -- r7.0 t39 := load [25] t2
    refine ol_load rfl (op_loadN agg_25 rfl (by rfl) (fun w hw k u hk => (hw.bcell (i := 1) rfl).trans hk)) hS ?_
    -- r7.1 t40 := fieldAddr [31, 0] t3
    refine ol_pure rfl (op_fieldAddr fld_31_0 rfl) ?_
    -- r7.2 t41 := load [28] t40
    refine ol_load rfl (op_load1 one_28 rfl (fun w hw => (hw.bcell (i := 0) rfl).trans rfl)) hS ?_
    -- r7.3 t42 := call f20 t39 t41
    refine ol_step rfl (op_call_fr hS cf_20 rfl (R22_Partly_c _ _ hS.hold EAtom.mono _ _ atoms rs (h1.mono EAtom.mono ((hl22.trans hl28).trans hl35)) (h2.mono ERule.mono ((hl22.trans hl28).trans hl35)) hP _ l (h3.mono EStep.mono ((hl22.trans hl28).trans hl35)))) ?_
    clear hS
    rintro v42 w ⟨F42, G42, hR42, hF42, hf42, hl42, hS⟩
    obtain ⟨vm42, hv, hX⟩ := hR42
    subst hv
    replace hX := hX.mono EInt.mono hf42
    
    -- r7.4 t38 := move  t42
    refine ol_pure rfl (op_move rfl) ?_
    -- r7.5 t43 := extract [0] t38
    refine ol_pure rfl (op_extract (vs := [vm42, .int .i64 ((partly rs (startI atoms.length) l).2 : Nat)]) rfl rfl) ?_
    -- r7.6 t44 := extract [1] t38
    refine ol_pure rfl (op_extract (vs := [vm42, .int .i64 ((partly rs (startI atoms.length) l).2 : Nat)]) rfl rfl) ?_
    -- r7.7 t12 := assign  t43
    refine ol_pure rfl (op_assign rfl) ?_
    -- r7.8 t13 := assign  t44
    refine ol_pure rfl (op_assign rfl) ?_
    refine ol_nil ?_
    refine pq_then ?_
    refine cw_seq ?_
    replace hA := ((hA.mono EInt.mono hl28).mono EInt.mono hl35).mono EInt.mono hl42
    replace hB := (hB.mono EInt.mono hl35).mono EInt.mono hl42
    replace hM := hM.mono EInt.mono hl42
    refine cw_region ?_
    -- r8.0 t45 := move  t5
    refine ol_pure rfl (op_move rfl) ?_
    -- r8.1 t46 := move  t45
    refine ol_pure rfl (op_move rfl) ?_
    -- r8.2 t47 := move  t6 ?1=True
    refine ol_guard_pure rfl rfl rfl (op_move rfl) ?_
    -- r8.3 t48 := move  t8 ?1=True
    refine ol_guard_pure rfl rfl rfl (op_move rfl) ?_
    -- r8.4 t49 := call f16 t47 t48 ?1=True
    refine ol_guard_step rfl rfl rfl (op_call_sc hS cf_16 rfl (calls_t (decide_eq_true rfl) (R07_Ints_c _ _ hS.hold _ _ ((checkI rs atoms.length l hs).getD []) ((checkI rs atoms.length l hs).getD []) hA hB))) ?_
    clear hS
    rintro _ w ⟨rfl, hS⟩
    -- r8.5 t50 := pick  t46 t49 Cfalse
    refine ol_pure rfl (op_pick_t rfl rfl) ?_
    -- r8.6 t51 := move  t50
    refine ol_pure rfl (op_move rfl) ?_
    -- r8.7 t52 := move  t7 ?6=True
    refine ol_guard_pure rfl rfl rfl (op_move rfl) ?_
    -- r8.8 t53 := move  t9 ?6=True
    refine ol_guard_pure rfl rfl rfl (op_move rfl) ?_
    -- r8.9 t54 := eql t52 t53 ?6=True
    refine ol_guard_pure rfl rfl rfl (op_val (v' := .bool true) (op_eqlB Try.underlying4 rfl rfl) (congrArg Value.bool (by simp))) ?_
    -- r8.10 t55 := pick  t51 t54 Cfalse
    refine ol_pure rfl (op_pick_t rfl rfl) ?_
    -- r8.11 t56 := move  t55
    refine ol_pure rfl (op_move rfl) ?_
    -- r8.12 t57 := move  t10 ?11=True
    refine ol_guard_pure rfl rfl rfl (op_move rfl) ?_
    -- r8.13 t58 := move  t12 ?11=True
    refine ol_guard_pure rfl rfl rfl (op_move rfl) ?_
    -- r8.14 t59 := call f16 t57 t58 ?11=True
    refine ol_guard_step rfl rfl rfl (op_call_sc hS cf_16 rfl (calls_t (decide_eq_true rfl) (R07_Ints_c _ _ hS.hold _ _ (partly rs (startI atoms.length) l).1 (partly rs (startI atoms.length) l).1 hM hX))) ?_
    clear hS
    rintro _ w ⟨rfl, hS⟩
    -- r8.15 t60 := pick  t56 t59 Cfalse
    refine ol_pure rfl (op_pick_t rfl rfl) ?_
    -- r8.16 t61 := move  t60
    refine ol_pure rfl (op_move rfl) ?_
    -- r8.17 t62 := move  t11 ?16=True
    refine ol_guard_pure rfl rfl rfl (op_move rfl) ?_
    -- r8.18 t63 := move  t13 ?16=True
    refine ol_guard_pure rfl rfl rfl (op_move rfl) ?_
    -- r8.19 t64 := eql t62 t63 ?16=True
    refine ol_guard_pure rfl rfl rfl (op_eqlT rfl rfl rfl) ?_
    -- r8.20 t65 := pick  t61 t64 Cfalse
    refine ol_pure rfl (op_pick_t rfl rfl) ?_
    -- r8.21 t4 := assign  t65
    refine ol_pure rfl (op_assign rfl) ?_
    refine ol_nil ?_
    refine pq_then ?_
    refine cw_ret ?_
    refine ret1 rfl rfl ?_
    -- ret2 h17f
    exact hS.sc_b rfl
end Go.Proofs.Ytbpmkidaoemebaa.K
