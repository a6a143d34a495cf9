/-
  The walks of JudgeModel and JudgeSound.
  No condition but the premises that each theorem names.
-/
import Derived.Test.YtbpmkidaoemebaaLaw22b
import Derived.Test.YtbpmkidaoemebaaPll
namespace Go.Proofs.Ytbpmkidaoemebaa.K
open Go Go.RowKit
set_option linter.unusedVariables false
set_option linter.unusedSimpArgs false

open Pl

set_option maxRecDepth 100000 in
set_option maxHeartbeats 1000000 in

theorem L22_JudgeModel_c (G : GH) (w0 : World) (hG : Holds G w0) (va vr : Value) (atoms : List (List Cell)) (rs : List Rule) (h1 : RSl 1 EAtom G va atoms) (h2 : RSl 3 ERule G vr rs) (vs vh : Value) (l : List Step) (hs : List Int) (h3 : RSl 2 EStep G vs l) (h4 : RSl 1 EInt G vh hs) :
    Calls Try.prog 7 #[.agg #[va, vr], .agg #[vs, vh]] w0 (Sc w0 (.bool true)) := by
  obtain ⟨oA, cA, rfl, hlA, hmA⟩ := h1.elim
  obtain ⟨oR, cR, rfl, hlR, hmR⟩ := h2.elim
  obtain ⟨oL, cL, rfl, hlL, hmL⟩ := h3.elim
  have hLle := h3.le
  obtain ⟨oH, cH, rfl, hlH, hmH⟩ := h4.elim
  refine enter Try.func7 rfl (N := 34) rfl (Nat.le_of_ble_eq_true rfl) ?_
  have hS := SS.init hG
  refine cw_seq ?_
  refine cw_region ?_
  -- r0.0 t2 := box [25] t0
  refine ol_step rfl (op_box hS rfl rfl) ?_
  clear hS
  rintro _ w ⟨b2, rfl, hS⟩
  -- r0.1 t3 := box [31] t1
  refine ol_step rfl (op_box hS rfl rfl) ?_
  clear hS
  rintro _ w ⟨b3, rfl, hS⟩
  -- r0.2 t4 := assign  Cfalse
  refine ol_pure rfl (op_assign rfl) ?_
  refine ol_nil ?_
  refine pq_then ?_
  refine cw_seq ?_
  refine cw_region ?_
  -- r1.0 t8 := call f11 
  refine ol_step rfl (op_call_sc hS cf_11 rfl (L22_head_c G _ hS.hold)) ?_
  clear hS
  rintro _ w ⟨rfl, hS⟩
  -- r1.1 t5 := assign  t8
  refine ol_pure rfl (op_assign rfl) ?_
  refine ol_nil ?_
  refine pq_then ?_
  refine cw_seq ?_
  refine cw_seq ?_
  refine cw_region ?_
  -- r2.0 t9 := load [25] t2
  refine ol_load rfl (op_loadN agg_25 rfl (by rfl) (fun w hw k u hk => (hw.bcell (i := 1) rfl).trans hk)) hS ?_
  -- r2.1 t10 := load [31] t3
  refine ol_load rfl (op_loadN agg_31 rfl (by rfl) (fun w hw k u hk => (hw.bcell (i := 0) rfl).trans hk)) hS ?_
  -- r2.2 t11 := call f12 t9 t10
  refine ol_step rfl (op_call_sc hS cf_12 rfl (L22_great_c G _ hS.hold _ _ atoms rs h1 h2 _ _ l hs h3 h4)) ?_
  clear hS
  rintro _ w ⟨rfl, hS⟩
  refine ol_nil ?_
  refine pq_then ?_
  refine cw_cond rfl (fun h11 => ?_) (fun h11 => ?_)
  · skip
    try simp only [decide_eq_true_eq, decide_eq_false_iff_not, Bool.not_eq_true', Bool.not_eq_false', Bool.not_eq_eq_eq_not, Bool.not_true, Bool.not_false] at h11
    refine cw_seq ?_
    refine cw_region ?_
    -- r3.0 t12 := move  t5
    refine ol_pure rfl (op_move rfl) ?_
    -- r3.1 t4 := assign  t12
    refine ol_pure rfl (op_assign rfl) ?_
    refine ol_nil ?_
    refine pq_then ?_
    refine cw_ret ?_
    refine pq_ret ?_
    refine ret1 rfl rfl ?_
    -- ret1 h11t
    exact hS.sc_b rfl
  · skip
    try simp only [decide_eq_true_eq, decide_eq_false_iff_not, Bool.not_eq_true', Bool.not_eq_false', Bool.not_eq_eq_eq_not, Bool.not_true, Bool.not_false] at h11
    have hgr := greatB_f h11
    have hP := PrOk.of_great hgr.1 hgr.2.1
    have hPn := hP.n_le
    have hPm := hP.m_le
    have hle0 := Le.refl G
    refine cw_skip ?_
    refine pq_then ?_
    refine cw_seq ?_
    refine cw_region ?_
    -- r4.0 t14 := load [25] t2
    refine ol_load rfl (op_loadN agg_25 rfl (by rfl) (fun w hw k u hk => (hw.bcell (i := 1) rfl).trans hk)) hS ?_
    -- r4.1 t15 := load [31] t3
    refine ol_load rfl (op_loadN agg_31 rfl (by rfl) (fun w hw k u hk => (hw.bcell (i := 0) rfl).trans hk)) hS ?_
    -- r4.2 t16 := call f14 t14 t15
    refine ol_step rfl (op_call_fr hS cf_14 rfl (judge_Check_c _ _ hS.hold _ _ atoms rs (h1.mono EAtom.mono hle0) (h2.mono ERule.mono hle0) hP _ _ l hs h3 h4)) ?_
    clear hS
    rintro v16 w ⟨F16, G16, hR16, hF16, hf16, hl16, hS⟩
    obtain ⟨vm, hv, hM⟩ := hR16
    obtain ⟨oM, cM, rfl, _, _⟩ := hM.elim
    subst hv
    replace hM := hM.mono EInt.mono hf16
    -- r4.3 t13 := move  t16
    refine ol_pure rfl (op_move rfl) ?_
    -- r4.4 t17 := extract [0] t13
    refine ol_pure rfl (op_extract (vs := [.slice oM ((checkI rs atoms.length l hs).getD []).length cM, .bool (checkI rs atoms.length l hs).isSome]) rfl rfl) ?_
    -- r4.5 t18 := extract [1] t13
    refine ol_pure rfl (op_extract (vs := [.slice oM ((checkI rs atoms.length l hs).getD []).length cM, .bool (checkI rs atoms.length l hs).isSome]) rfl rfl) ?_
    -- r4.6 t6 := assign  t17
    refine ol_pure rfl (op_assign rfl) ?_
    -- r4.7 t7 := assign  t18
    refine ol_pure rfl (op_assign rfl) ?_
    refine ol_nil ?_
    refine pq_then ?_
    refine cw_seq ?_
    refine cw_seq ?_
    refine cw_region ?_
    -- r5.0 t19 := move  t7
    refine ol_pure rfl (op_move rfl) ?_
    -- r5.1 t20 := not t19
    refine ol_pure rfl (op_not rfl) ?_
    refine ol_nil ?_
    refine pq_then ?_
    refine cw_cond rfl (fun h20 => ?_) (fun h20 => ?_)
    · skip
      try simp only [decide_eq_true_eq, decide_eq_false_iff_not, Bool.not_eq_true', Bool.not_eq_false', Bool.not_eq_eq_eq_not, Bool.not_true, Bool.not_false] at h20
      have hnone : (checkI rs atoms.length l hs) = none := by cases hc : (checkI rs atoms.length l hs) with
        | none => rfl
        | some x => rw [hc] at h20; cases h20
      refine cw_seq ?_
      refine cw_region ?_
      -- r6.0 t21 := move  t5
      refine ol_pure rfl (op_move rfl) ?_
      -- r6.1 t22 := move  t21
      refine ol_pure rfl (op_move rfl) ?_
      -- r6.2 t23 := move  t6 ?1=True
      refine ol_guard_pure rfl rfl rfl (op_move rfl) ?_
      -- r6.3 t24 := call len t23 ?1=True
      refine ol_guard_pure rfl rfl rfl (op_len sl_29 rfl rfl) ?_
      -- r6.4 t25 := eql t24 C0 ?1=True
      refine ol_guard_pure rfl rfl rfl (op_eqlT rfl rfl (by rw [hnone]; rfl)) ?_
      -- r6.5 t26 := pick  t22 t25 Cfalse
      refine ol_pure rfl (op_pick_t rfl rfl) ?_
      -- r6.6 t4 := assign  t26
      refine ol_pure rfl (op_assign rfl) ?_
      refine ol_nil ?_
      refine pq_then ?_
      refine cw_ret ?_
      refine pq_ret ?_
      refine ret1 rfl rfl ?_
      -- ret2 h11f h20t
      exact hS.sc_b rfl
    · skip
      try simp only [decide_eq_true_eq, decide_eq_false_iff_not, Bool.not_eq_true', Bool.not_eq_false', Bool.not_eq_eq_eq_not, Bool.not_true, Bool.not_false] at h20
      obtain ⟨m2, hm2⟩ : ∃ m2, (checkI rs atoms.length l hs) = some m2 := by
        cases hc : (checkI rs atoms.length l hs) with
        | none => rw [hc] at h20; cases h20
        | some x => exact ⟨x, rfl⟩
      refine cw_skip ?_
      refine pq_then ?_
      refine cw_seq ?_
      refine cw_region ?_
      -- r7.0 t27 := move  t5
      refine ol_pure rfl (op_move rfl) ?_
      -- r7.1 t28 := move  t27
      refine ol_pure rfl (op_move rfl) ?_
      -- r7.2 t29 := move  t6 ?1=True
      refine ol_guard_pure rfl rfl rfl (op_move rfl) ?_
      -- r7.3 t30 := load [25] t2 ?1=True
      refine ol_guard_load rfl rfl rfl (op_loadN agg_25 rfl (by rfl) (fun w hw k u hk => (hw.bcell (i := 1) rfl).trans hk)) hS ?_
      -- r7.4 t31 := call f17 t30 ?1=True
      refine ol_guard_step rfl rfl rfl (op_call_fr hS cf_17 rfl (wfm_Model_c _ _ hS.hold EAtom.mono _ _ atoms rs (h1.mono EAtom.mono hl16) (h2.mono ERule.mono hl16) hP)) ?_
      clear hS
      rintro v31 w ⟨F31, G31, hR31, hF31, hf31, hl31, hS⟩
      obtain ⟨oW, cW, rfl, _, _⟩ := hR31.elimN (modelI_len _ _)
      have hW := hR31.mono EInt.mono hf31
      
      -- r7.5 t32 := call f16 t29 t31 ?1=True
      refine ol_guard_step rfl rfl rfl (op_call_sc hS cf_16 rfl (calls_t (decide_eq_true (by rw [hm2]; exact check_model hP hm2)) (R07_Ints_c _ _ hS.hold _ _ ((checkI rs atoms.length l hs).getD []) (modelI atoms.length rs) (hM.mono EInt.mono hl31) hW))) ?_
      clear hS
      rintro _ w ⟨rfl, hS⟩
      -- r7.6 t33 := pick  t28 t32 Cfalse
      refine ol_pure rfl (op_pick_t rfl rfl) ?_
      -- r7.7 t4 := assign  t33
      refine ol_pure rfl (op_assign rfl) ?_
      refine ol_nil ?_
      refine pq_then ?_
      refine cw_ret ?_
      refine ret1 rfl rfl ?_
      -- ret3 h11f h20f
      exact hS.sc_b rfl
set_option maxRecDepth 100000 in
set_option maxHeartbeats 1000000 in

theorem L22_JudgeSound_c (G : GH) (w0 : World) (hG : Holds G w0) (va vr : Value) (atoms : List (List Cell)) (rs : List Rule) (h1 : RSl 1 EAtom G va atoms) (h2 : RSl 3 ERule G vr rs) (vs : Value) (l : List Step) (h3 : RSl 2 EStep G vs l)  :
    Calls Try.prog 8 #[.agg #[va, vr], vs] w0 (Sc w0 (.bool true)) := by
  obtain ⟨oA, cA, rfl, hlA, hmA⟩ := h1.elim
  obtain ⟨oR, cR, rfl, hlR, hmR⟩ := h2.elim
  obtain ⟨oL, cL, rfl, hlL, hmL⟩ := h3.elim
  have hLle := h3.le
  refine enter Try.func8 rfl (N := 84) rfl (Nat.le_of_ble_eq_true rfl) ?_
  have hS := SS.init hG
  refine cw_seq ?_
  refine cw_region ?_
  -- r0.0 t2 := box [25] t0
  refine ol_step rfl (op_box hS rfl rfl) ?_
  clear hS
  rintro _ w ⟨b2, rfl, hS⟩
  -- r0.1 t4 := assign  Cfalse
  refine ol_pure rfl (op_assign rfl) ?_
  refine ol_nil ?_
  refine pq_then ?_
  refine cw_seq ?_
  refine cw_region ?_
  -- r1.0 t11 := call f11 
  refine ol_step rfl (op_call_sc hS cf_11 rfl (L22_head_c G _ hS.hold)) ?_
  clear hS
  rintro _ w ⟨rfl, hS⟩
  -- r1.1 t5 := assign  t11
  refine ol_pure rfl (op_assign rfl) ?_
  refine ol_nil ?_
  refine pq_then ?_
  refine cw_seq ?_
  refine cw_seq ?_
  refine cw_region ?_
  -- r2.0 t12 := load [25] t2
  refine ol_load rfl (op_loadN agg_25 rfl (by rfl) (fun w hw k u hk => (hw.bcell (i := 0) rfl).trans hk)) hS ?_
  -- r2.1 t13 := move  t1
  refine ol_pure rfl (op_move rfl) ?_
  -- r2.2 t14 := build [31] 0:t13
  refine ol_pure rfl (op_build (is := [0]) (xs := [.tmp 13]) (v := .agg #[.slice oL l.length cL, .slice none 0 0]) rfl rfl (fun w => by kernel_rfl)) ?_
  -- r2.3 t15 := call f12 t12 t14
  refine ol_step rfl (op_call_sc hS cf_12 rfl (L22_great_c G _ hS.hold _ _ atoms rs h1 h2 _ _ l [] h3 (RSl.nil _))) ?_
  clear hS
  rintro _ w ⟨rfl, hS⟩
  refine ol_nil ?_
  refine pq_then ?_
  refine cw_cond rfl (fun h15 => ?_) (fun h15 => ?_)
  · skip
    try simp only [decide_eq_true_eq, decide_eq_false_iff_not, Bool.not_eq_true', Bool.not_eq_false', Bool.not_eq_eq_eq_not, Bool.not_true, Bool.not_false] at h15
    refine cw_seq ?_
    refine cw_region ?_
    -- r3.0 t16 := move  t5
    refine ol_pure rfl (op_move rfl) ?_
    -- r3.1 t4 := assign  t16
    refine ol_pure rfl (op_assign rfl) ?_
    refine ol_nil ?_
    refine pq_then ?_
    refine cw_ret ?_
    refine pq_ret ?_
    refine ret1 rfl rfl ?_
    -- ret1 h15t
    exact hS.sc_b rfl
  · skip
    try simp only [decide_eq_true_eq, decide_eq_false_iff_not, Bool.not_eq_true', Bool.not_eq_false', Bool.not_eq_eq_eq_not, Bool.not_true, Bool.not_false] at h15
    have hgr := greatB_f h15
    have hP := PrOk.of_great hgr.1 hgr.2.1
    have hPn := hP.n_le
    have hPm := hP.m_le
    have hle0 := Le.refl G
    have hple := partly_le (rs := rs) l (startI atoms.length)
    have hpl := partly_len (rs := rs) l (startI atoms.length)
    rw [show (startI atoms.length).length = atoms.length from by simp [startI]] at hpl
    have hsd := partly_sound hP l (m := startI atoms.length) Sound.start
    have htold := partly_told (n := atoms.length) (rs := rs) l (m := startI atoms.length) (by simp [startI])
    rw [← toldN_all hpl] at htold
    refine cw_skip ?_
    refine pq_then ?_
    refine cw_seq ?_
    refine cw_region ?_
    -- r4.0 t18 := load [25] t2
    refine ol_load rfl (op_loadN agg_25 rfl (by rfl) (fun w hw k u hk => (hw.bcell (i := 0) rfl).trans hk)) hS ?_
    -- r4.1 t19 := move  t1
    refine ol_pure rfl (op_move rfl) ?_
    -- r4.2 t20 := call f19 t18 t19
    refine ol_step rfl (op_call_fr hS cf_19 rfl (judge_Partly_c _ _ hS.hold _ _ atoms rs (h1.mono EAtom.mono hle0) (h2.mono ERule.mono hle0) hP _ l h3)) ?_
    clear hS
    rintro v20 w ⟨F20, G20, hR20, hF20, hf20, hl20, hS⟩
    obtain ⟨vm20, hv, hM⟩ := hR20
    subst hv
    obtain ⟨oM, cM, rfl, _, _⟩ := hM.elimN (n := atoms.length) (by rw [partly_len]; simp [startI])
    replace hM := hM.mono EInt.mono hf20
    
    -- r4.3 t17 := move  t20
    refine ol_pure rfl (op_move rfl) ?_
    -- r4.4 t21 := extract [0] t17
    refine ol_pure rfl (op_extract (vs := [.slice oM atoms.length cM, .int .i64 ((partly rs (startI atoms.length) l).2 : Nat)]) rfl rfl) ?_
    -- r4.5 t22 := extract [1] t17
    refine ol_pure rfl (op_extract (vs := [.slice oM atoms.length cM, .int .i64 ((partly rs (startI atoms.length) l).2 : Nat)]) rfl rfl) ?_
    -- r4.6 t6 := assign  t21
    refine ol_pure rfl (op_assign rfl) ?_
    -- r4.7 t7 := assign  t22
    refine ol_pure rfl (op_assign rfl) ?_
    refine ol_nil ?_
    refine pq_then ?_
    refine cw_seq ?_
    refine cw_region ?_
    -- r5.0 t23 := load [25] t2
    refine ol_load rfl (op_loadN agg_25 rfl (by rfl) (fun w hw k u hk => (hw.bcell (i := 0) rfl).trans hk)) hS ?_
    -- r5.1 t24 := call f17 t23
    refine ol_step rfl (op_call_fr hS cf_17 rfl (wfm_Model_c _ _ hS.hold EAtom.mono _ _ atoms rs (h1.mono EAtom.mono hl20) (h2.mono ERule.mono hl20) hP)) ?_
    clear hS
    rintro v24 w ⟨F24, G24, hR24, hF24, hf24, hl24, hS⟩
    obtain ⟨oW, cW, rfl, _, _⟩ := hR24.elimN (modelI_len _ _)
    have hW := hR24.mono EInt.mono hf24
    replace hM := hM.mono EInt.mono hl24
    -- r5.2 t8 := assign  t24
    refine ol_pure rfl (op_assign rfl) ?_
    refine ol_nil ?_
    refine pq_then ?_
    refine cw_seq ?_
    refine cw_seq ?_
    refine cw_region ?_
    -- r6.0 t25 := move  t6
    refine ol_pure rfl (op_move rfl) ?_
    -- r6.1 t26 := call len t25
    refine ol_pure rfl (op_len sl_29 rfl rfl) ?_
    -- r6.2 t27 := fieldAddr [25, 0] t2
    refine ol_pure rfl (op_fieldAddr fld_25_0 rfl) ?_
    -- r6.3 t28 := load [22] t27
    refine ol_load rfl (op_load1 one_22 rfl (fun w hw => (hw.bcell (i := 0) rfl).trans rfl)) hS ?_
    -- r6.4 t29 := call len t28
    refine ol_pure rfl (op_len sl_22 rfl rfl) ?_
    -- r6.5 t30 := neq t26 t29
    refine ol_pure rfl (op_neqF rfl rfl rfl) ?_
    -- r6.6 t31 := move  t30
    refine ol_pure rfl (op_move rfl) ?_
    -- r6.7 t32 := move  t8 ?6=False
    refine ol_guard_pure rfl rfl rfl (op_move rfl) ?_
    -- r6.8 t33 := call len t32 ?6=False
    refine ol_guard_pure rfl rfl rfl (op_len sl_29 rfl rfl) ?_
    -- r6.9 t34 := fieldAddr [25, 0] t2 ?6=False
    refine ol_guard_pure rfl rfl rfl (op_fieldAddr fld_25_0 rfl) ?_
    -- r6.10 t35 := load [22] t34 ?6=False
    refine ol_guard_load rfl rfl rfl (op_load1 one_22 rfl (fun w hw => (hw.bcell (i := 0) rfl).trans rfl)) hS ?_
    -- r6.11 t36 := call len t35 ?6=False
    refine ol_guard_pure rfl rfl rfl (op_len sl_22 rfl rfl) ?_
    -- r6.12 t37 := neq t33 t36 ?6=False
    refine ol_guard_pure rfl rfl rfl (op_neqF rfl rfl rfl) ?_
    -- r6.13 t38 := pick  t31 Ctrue t37
    refine ol_pure rfl (op_pick_f rfl rfl) ?_
    -- r6.14 t39 := move  t38
    refine ol_pure rfl (op_move rfl) ?_
    -- r6.15 t40 := move  t7 ?14=False
    refine ol_guard_pure rfl rfl rfl (op_move rfl) ?_
    -- r6.16 t41 := lss t40 C0 ?14=False
    refine ol_guard_pure rfl rfl rfl (op_lssF rfl rfl (by omega)) ?_
    -- r6.17 t42 := pick  t39 Ctrue t41
    refine ol_pure rfl (op_pick_f rfl rfl) ?_
    -- r6.18 t43 := move  t42
    refine ol_pure rfl (op_move rfl) ?_
    -- r6.19 t44 := move  t7 ?18=False
    refine ol_guard_pure rfl rfl rfl (op_move rfl) ?_
    -- r6.20 t45 := move  t1 ?18=False
    refine ol_guard_pure rfl rfl rfl (op_move rfl) ?_
    -- r6.21 t46 := call len t45 ?18=False
    refine ol_guard_pure rfl rfl rfl (op_len sl_28 rfl rfl) ?_
    -- r6.22 t47 := gtr t44 t46 ?18=False
    refine ol_guard_pure rfl rfl rfl (op_gtrF rfl rfl (by omega)) ?_
    -- r6.23 t48 := pick  t43 Ctrue t47
    refine ol_pure rfl (op_pick_f rfl rfl) ?_
    refine ol_nil ?_
    refine pq_then ?_
    refine cw_cond_f rfl ?_
    refine cw_skip ?_
    refine pq_then ?_
    refine cw_seq ?_
    refine cw_region ?_
    -- r8.0 t9 := assign  C0
    refine ol_pure rfl (op_assign rfl) ?_
    refine ol_nil ?_
    refine pq_then ?_
    refine cw_seq ?_
    refine cw_seq ?_
    refine cw_region ?_
    -- r9.0 t10 := assign  C0
    refine ol_pure rfl (op_assign rfl) ?_
    refine ol_nil ?_
    refine pq_then ?_
    refine cw_block ?_
    refine cw_loop (fun e w n => ∃ k tn : Nat, e = [(5, .bool true), (6, .slice oM atoms.length cM), (7, .int .i64 ((partly rs (startI atoms.length) l).2 : Nat)), (8, .slice oW atoms.length cW), (9, .int .i64 (tn : Nat)), (10, .int .i64 (k : Nat))] ∧ k ≤ atoms.length ∧ n = atoms.length - k ∧ tn = toldN (partly rs (startI atoms.length) l).1 k ∧ SS G w0 G24 [.blk b2 25 [.slice oA atoms.length cA, .slice oR rs.length cR]] w) _ _ (by exact ⟨0, 0, rfl, Nat.zero_le _, rfl, rfl, hS⟩) ((Sub.cons rfl (Sub.cons rfl (Sub.cons rfl (Sub.cons rfl (Sub.cons rfl (Sub.cons rfl Sub.nil))))))) ?_
    clear hS
    rintro e w n ⟨k, tn, rfl, hk, rfl, htn, hS⟩
    refine cw_seq ?_
    refine cw_seq ?_
    refine cw_region ?_
    -- r10.0 t49 := move  t10
    refine ol_pure rfl (op_move rfl) ?_
    -- r10.1 t50 := move  t6
    refine ol_pure rfl (op_move rfl) ?_
    -- r10.2 t51 := call len t50
    refine ol_pure rfl (op_len sl_29 rfl rfl) ?_
    -- r10.3 t52 := lss t49 t51
    refine ol_pure rfl (op_lss rfl rfl) ?_
    refine ol_nil ?_
    refine pq_then ?_
    refine cw_cond rfl (fun h52 => ?_) (fun h52 => ?_)
    · skip
      try simp only [decide_eq_true_eq, decide_eq_false_iff_not, Bool.not_eq_true', Bool.not_eq_false', Bool.not_eq_eq_eq_not, Bool.not_true, Bool.not_false] at h52
      have hlt : k < atoms.length := by omega
      have hltM : k < (partly rs (startI atoms.length) l).1.length := by omega
      have hltW : k < (modelI atoms.length rs).length := by rw [modelI_len]; exact hlt
      obtain ⟨hoM, hcM, _⟩ := hM.int hltM
      obtain ⟨hoW, hcW, _⟩ := hW.int hltW
      have htl := Nat.le_of_lt_succ (Nat.lt_succ_of_le (toldN_le (partly rs (startI atoms.length) l).1 k))
      have hts := toldN_succ hltM
      refine cw_skip ?_
      refine pq_then ?_
      refine cw_seq ?_
      refine cw_block ?_
      refine cw_seq ?_
      refine cw_seq ?_
      refine al_start' hS (hS.take 0) (by kernel_rfl) rfl (fun w hS hT => ?_)
      -- r12.0 t55 := move  t6
      refine al_take (i := 0) rfl (by kernel_rfl) (by kernel_rfl) (by kernel_rfl) rfl (fun _ _ _ h => h) (op_move rfl) rfl ?_
      -- r12.1 t56 := move  t10
      refine al_take (i := 1) rfl (by kernel_rfl) (by kernel_rfl) (by kernel_rfl) rfl (fun _ _ _ h => h) (op_move rfl) rfl ?_
      -- r12.2 t57 := indexAddr [29] t55 t56
      refine al_take (i := 2) rfl (by kernel_rfl) (by kernel_rfl) (by kernel_rfl) rfl (fun _ _ _ h => h) (op_indexN sl_29 rfl rfl (by omega) hoM) rfl ?_
      -- r12.3 t58 := load [3] t57
      refine al_load (i := 3) rfl (by kernel_rfl) (by kernel_rfl) (by kernel_rfl) rfl (fun _ _ _ h => h) (by exact op_load1 one_3 rfl (fun w hw => hw.gcell hcM)) rfl hT ?_
      -- r12.4 t59 := neq t58 C1
      refine al_take (i := 4) rfl (by kernel_rfl) (by kernel_rfl) (by kernel_rfl) rfl (fun _ _ _ h => h) (op_neq rfl rfl) rfl ?_
      -- r12.5 t60 := move  t59
      refine al_take (i := 5) rfl (by kernel_rfl) (by kernel_rfl) (by kernel_rfl) rfl (fun _ _ _ h => h) (op_move rfl) rfl ?_
      refine al_split (fun h60 => ?_) (fun h60 => ?_)
      · skip
        try simp only [decide_eq_true_eq, decide_eq_false_iff_not, Bool.not_eq_true', Bool.not_eq_false', Bool.not_eq_eq_eq_not, Bool.not_true, Bool.not_false] at h60
        have hsm : (partly rs (startI atoms.length) l).1[k] = (modelI atoms.length rs)[k] := by
          have hh := sound_model hP hsd (a := k) hlt (by rw [List.getD_eq_getElem?_getD, List.getElem?_eq_getElem hltM]; exact h60)
          rw [List.getD_eq_getElem?_getD, List.getD_eq_getElem?_getD, List.getElem?_eq_getElem hltM, List.getElem?_eq_getElem hltW] at hh
          exact hh
        -- r12.6 t61 := move  t6 ?5=True
        refine al_gtake (i := 6) rfl (by kernel_rfl) (by kernel_rfl) (by kernel_rfl) rfl rfl rfl (fun _ _ _ h => h) (op_move rfl) rfl ?_
        -- r12.7 t62 := move  t10 ?5=True
        refine al_gtake (i := 7) rfl (by kernel_rfl) (by kernel_rfl) (by kernel_rfl) rfl rfl rfl (fun _ _ _ h => h) (op_move rfl) rfl ?_
        -- r12.8 t63 := indexAddr [29] t61 t62 ?5=True
        refine al_gtake (i := 8) rfl (by kernel_rfl) (by kernel_rfl) (by kernel_rfl) rfl rfl rfl (fun _ _ _ h => h) (op_indexN sl_29 rfl rfl (by omega) hoM) rfl ?_
        -- r12.9 t64 := load [3] t63 ?5=True
        refine al_gload (i := 9) rfl (by kernel_rfl) (by kernel_rfl) (by kernel_rfl) rfl rfl rfl (fun _ _ _ h => h) (by exact op_load1 one_3 rfl (fun w hw => hw.gcell hcM)) rfl hT ?_
        -- r12.10 t65 := move  t8 ?5=True
        refine al_gtake (i := 10) rfl (by kernel_rfl) (by kernel_rfl) (by kernel_rfl) rfl rfl rfl (fun _ _ _ h => h) (op_move rfl) rfl ?_
        -- r12.11 t66 := move  t10 ?5=True
        refine al_gtake (i := 11) rfl (by kernel_rfl) (by kernel_rfl) (by kernel_rfl) rfl rfl rfl (fun _ _ _ h => h) (op_move rfl) rfl ?_
        -- r12.12 t67 := indexAddr [29] t65 t66 ?5=True
        refine al_gtake (i := 12) rfl (by kernel_rfl) (by kernel_rfl) (by kernel_rfl) rfl rfl rfl (fun _ _ _ h => h) (op_indexN sl_29 rfl rfl (by omega) hoW) rfl ?_
        -- r12.13 t68 := load [3] t67 ?5=True
        refine al_gload (i := 13) rfl (by kernel_rfl) (by kernel_rfl) (by kernel_rfl) rfl rfl rfl (fun _ _ _ h => h) (by exact op_load1 one_3 rfl (fun w hw => hw.gcell hcW)) rfl hT ?_
        -- r12.14 t69 := neq t64 t68 ?5=True
        refine al_gtake (i := 14) rfl (by kernel_rfl) (by kernel_rfl) (by kernel_rfl) rfl rfl rfl (fun _ _ _ h => h) (op_neqF rfl rfl hsm) rfl ?_
        -- r12.15 t70 := pick  t60 t69 Cfalse
        refine al_take (i := 15) rfl (by kernel_rfl) (by kernel_rfl) (by kernel_rfl) rfl (fun _ _ _ h => h) (op_pick_t rfl rfl) rfl ?_
        refine al_done (by kernel_rfl) ?_
        refine pq_then ?_
        refine cw_cond_f rfl ?_
        refine cw_skip ?_
        refine pq_then ?_
        refine cw_seq ?_
        refine cw_region ?_
        -- r14.0 t71 := move  t6
        refine ol_pure rfl (op_move rfl) ?_
        -- r14.1 t72 := move  t10
        refine ol_pure rfl (op_move rfl) ?_
        -- r14.2 t73 := indexAddr [29] t71 t72
        refine ol_pure rfl (op_indexN sl_29 rfl rfl (by omega) hoM) ?_
        -- r14.3 t74 := load [3] t73
        refine ol_load rfl (op_load1 one_3 rfl (fun w hw => hw.gcell hcM)) hS ?_
        -- r14.4 t75 := neq t74 C1
        refine ol_pure rfl (op_neq rfl rfl) ?_
        refine ol_nil ?_
        refine pq_then ?_
        refine cw_cond rfl (fun h75 => ?_) (fun h75 => ?_)
        · skip
          try simp only [decide_eq_true_eq, decide_eq_false_iff_not, Bool.not_eq_true', Bool.not_eq_false', Bool.not_eq_eq_eq_not, Bool.not_true, Bool.not_false] at h75
          refine cw_region ?_
          -- r15.0 t76 := move  t9
          refine ol_pure rfl (op_move rfl) ?_
          -- r15.1 t77 := add t76 C1
          refine ol_pure rfl (op_add rfl rfl (by omega) (by omega)) ?_
          -- r15.2 t9 := assign  t77
          refine ol_pure rfl (op_assign rfl) ?_
          refine ol_nil ?_
          refine pq_in_normal ?_
          refine pq_then ?_
          refine cw_region ?_
          -- r11.0 t53 := move  t10
          refine ol_pure rfl (op_move rfl) ?_
          -- r11.1 t54 := add t53 C1
          refine ol_pure rfl (op_add rfl rfl (by omega) (by omega)) ?_
          -- r11.2 t10 := assign  t54
          refine ol_pure rfl (op_assign rfl) ?_
          refine ol_nil ?_
          -- end of round 1 h15f h52t h60t h75t
          refine pq_loop _ _ (by exact ⟨k + 1, tn + 1, rfl, by omega, rfl, by rw [hts, if_neg h75, htn], hS⟩) ((Sub.cons rfl (Sub.cons rfl (Sub.cons rfl (Sub.cons rfl (Sub.cons rfl (Sub.cons rfl Sub.nil))))))) (by omega)
        · skip
          try simp only [decide_eq_true_eq, decide_eq_false_iff_not, Bool.not_eq_true', Bool.not_eq_false', Bool.not_eq_eq_eq_not, Bool.not_true, Bool.not_false] at h75
          refine cw_skip ?_
          refine pq_in_normal ?_
          refine pq_then ?_
          refine cw_region ?_
          -- r11.0 t53 := move  t10
          refine ol_pure rfl (op_move rfl) ?_
          -- r11.1 t54 := add t53 C1
          refine ol_pure rfl (op_add rfl rfl (by omega) (by omega)) ?_
          -- r11.2 t10 := assign  t54
          refine ol_pure rfl (op_assign rfl) ?_
          refine ol_nil ?_
          -- end of round 1 h15f h52t h60t h75f
          refine pq_loop _ _ (by exact ⟨k + 1, tn, rfl, by omega, rfl, by rw [hts, if_pos h75, htn]; rfl, hS⟩) ((Sub.cons rfl (Sub.cons rfl (Sub.cons rfl (Sub.cons rfl (Sub.cons rfl (Sub.cons rfl Sub.nil))))))) (by omega)
      · skip
        try simp only [decide_eq_true_eq, decide_eq_false_iff_not, Bool.not_eq_true', Bool.not_eq_false', Bool.not_eq_eq_eq_not, Bool.not_true, Bool.not_false] at h60
        refine al_gskip (i := 6) rfl (by kernel_rfl) (by kernel_rfl) (by kernel_rfl) rfl rfl rfl rfl (fun _ _ _ h => h) (fun _ => hT) ?_
        refine al_gskip (i := 7) rfl (by kernel_rfl) (by kernel_rfl) (by kernel_rfl) rfl rfl rfl rfl (fun _ _ _ h => h) (fun _ => hT) ?_
        refine al_gskip (i := 8) rfl (by kernel_rfl) (by kernel_rfl) (by kernel_rfl) rfl rfl rfl rfl (fun _ _ _ h => h) (fun _ => hT) ?_
        refine al_gskip (i := 9) rfl (by kernel_rfl) (by kernel_rfl) (by kernel_rfl) rfl rfl rfl rfl (fun _ _ _ h => h) (fun _ => hT) ?_
        refine al_gskip (i := 10) rfl (by kernel_rfl) (by kernel_rfl) (by kernel_rfl) rfl rfl rfl rfl (fun _ _ _ h => h) (fun _ => hT) ?_
        refine al_gskip (i := 11) rfl (by kernel_rfl) (by kernel_rfl) (by kernel_rfl) rfl rfl rfl rfl (fun _ _ _ h => h) (fun _ => hT) ?_
        refine al_gskip (i := 12) rfl (by kernel_rfl) (by kernel_rfl) (by kernel_rfl) rfl rfl rfl rfl (fun _ _ _ h => h) (fun _ => hT) ?_
        refine al_gskip (i := 13) rfl (by kernel_rfl) (by kernel_rfl) (by kernel_rfl) rfl rfl rfl rfl (fun _ _ _ h => h) (fun _ => hT) ?_
        refine al_gskip (i := 14) rfl (by kernel_rfl) (by kernel_rfl) (by kernel_rfl) rfl rfl rfl rfl (fun _ _ _ h => h) (fun _ => hT) ?_
        -- r12.15 t70 := pick  t60 t69 Cfalse
        refine al_take (i := 15) rfl (by kernel_rfl) (by kernel_rfl) (by kernel_rfl) rfl (fun _ _ _ h => h) (op_pick_f rfl rfl) rfl ?_
        refine al_done (by kernel_rfl) ?_
        refine pq_then ?_
        refine cw_cond_f rfl ?_
        refine cw_skip ?_
        refine pq_then ?_
        refine cw_seq ?_
        refine cw_region ?_
        -- r14.0 t71 := move  t6
        refine ol_pure rfl (op_move rfl) ?_
        -- r14.1 t72 := move  t10
        refine ol_pure rfl (op_move rfl) ?_
        -- r14.2 t73 := indexAddr [29] t71 t72
        refine ol_pure rfl (op_indexN sl_29 rfl rfl (by omega) hoM) ?_
        -- r14.3 t74 := load [3] t73
        refine ol_load rfl (op_load1 one_3 rfl (fun w hw => hw.gcell hcM)) hS ?_
        -- r14.4 t75 := neq t74 C1
        refine ol_pure rfl (op_neq rfl rfl) ?_
        refine ol_nil ?_
        refine pq_then ?_
        refine cw_cond rfl (fun h75 => ?_) (fun h75 => ?_)
        · skip
          try simp only [decide_eq_true_eq, decide_eq_false_iff_not, Bool.not_eq_true', Bool.not_eq_false', Bool.not_eq_eq_eq_not, Bool.not_true, Bool.not_false] at h75
          refine cw_region ?_
          -- r15.0 t76 := move  t9
          refine ol_pure rfl (op_move rfl) ?_
          -- r15.1 t77 := add t76 C1
          refine ol_pure rfl (op_add rfl rfl (by omega) (by omega)) ?_
          -- r15.2 t9 := assign  t77
          refine ol_pure rfl (op_assign rfl) ?_
          refine ol_nil ?_
          refine pq_in_normal ?_
          refine pq_then ?_
          refine cw_region ?_
          -- r11.0 t53 := move  t10
          refine ol_pure rfl (op_move rfl) ?_
          -- r11.1 t54 := add t53 C1
          refine ol_pure rfl (op_add rfl rfl (by omega) (by omega)) ?_
          -- r11.2 t10 := assign  t54
          refine ol_pure rfl (op_assign rfl) ?_
          refine ol_nil ?_
          -- end of round 1 h15f h52t h60f h75t
          refine pq_loop _ _ (by exact ⟨k + 1, tn + 1, rfl, by omega, rfl, by rw [hts, if_neg h75, htn], hS⟩) ((Sub.cons rfl (Sub.cons rfl (Sub.cons rfl (Sub.cons rfl (Sub.cons rfl (Sub.cons rfl Sub.nil))))))) (by omega)
        · skip
          try simp only [decide_eq_true_eq, decide_eq_false_iff_not, Bool.not_eq_true', Bool.not_eq_false', Bool.not_eq_eq_eq_not, Bool.not_true, Bool.not_false] at h75
          refine cw_skip ?_
          refine pq_in_normal ?_
          refine pq_then ?_
          refine cw_region ?_
          -- r11.0 t53 := move  t10
          refine ol_pure rfl (op_move rfl) ?_
          -- r11.1 t54 := add t53 C1
          refine ol_pure rfl (op_add rfl rfl (by omega) (by omega)) ?_
          -- r11.2 t10 := assign  t54
          refine ol_pure rfl (op_assign rfl) ?_
          refine ol_nil ?_
          -- end of round 1 h15f h52t h60f h75f
          refine pq_loop _ _ (by exact ⟨k + 1, tn, rfl, by omega, rfl, by rw [hts, if_pos h75, htn]; rfl, hS⟩) ((Sub.cons rfl (Sub.cons rfl (Sub.cons rfl (Sub.cons rfl (Sub.cons rfl (Sub.cons rfl Sub.nil))))))) (by omega)
    · skip
      try simp only [decide_eq_true_eq, decide_eq_false_iff_not, Bool.not_eq_true', Bool.not_eq_false', Bool.not_eq_eq_eq_not, Bool.not_true, Bool.not_false] at h52
      refine cw_exit ?_
      refine pq_exit ?_
      refine pq_exit ?_
      refine pq_in_exit ?_
      refine pq_then ?_
      refine cw_seq ?_
      refine cw_region ?_
      -- r16.0 t78 := move  t5
      refine ol_pure rfl (op_move rfl) ?_
      -- r16.1 t79 := move  t78
      refine ol_pure rfl (op_move rfl) ?_
      -- r16.2 t80 := move  t9 ?1=True
      refine ol_guard_pure rfl rfl rfl (op_move rfl) ?_
      -- r16.3 t81 := move  t7 ?1=True
      refine ol_guard_pure rfl rfl rfl (op_move rfl) ?_
      -- r16.4 t82 := geq t80 t81 ?1=True
      refine ol_guard_pure rfl rfl rfl (op_geq rfl rfl) ?_
      -- r16.5 t83 := pick  t79 t82 Cfalse
      refine ol_pure rfl (op_pick_t rfl rfl) ?_
      -- r16.6 t4 := assign  t83
      refine ol_pure rfl (op_assign rfl) ?_
      refine ol_nil ?_
      refine pq_then ?_
      refine cw_ret ?_
      refine ret1 rfl rfl ?_
      -- ret4 h15f h52f
      have hkn : k = atoms.length := by omega
      subst hkn
      exact hS.sc_b (decide_eq_true (by omega))
end Go.Proofs.Ytbpmkidaoemebaa.K
