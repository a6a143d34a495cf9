/-
  The walks of JudgeParts and JudgeNone.
  No condition but the premises that each theorem names.
-/
import Derived.Test.YtbpmkidaoemebaaLaw22b
import Derived.Test.YtbpmkidaoemebaaPll
namespace Go.Proofs.Ytbpmkidaoemebaa.K
open Go Go.RowKit
set_option linter.unusedVariables false
set_option linter.unusedSimpArgs false

open Pl
theorem wrap_u8 {a : Int} (h : 0 ≤ a ∧ a ≤ 255) : IntKind.i64.wrap a = a := by
  simp [IntKind.wrap, IntKind.signed, IntKind.bits]
  omega

set_option maxRecDepth 100000 in
set_option maxHeartbeats 1000000 in

theorem L22_JudgeParts_c (G : GH) (w0 : World) (hG : Holds G w0) (va vr : Value) (atoms : List (List Cell)) (rs : List Rule) (h1 : RSl 1 EAtom G va atoms) (h2 : RSl 3 ERule G vr rs) (vs : Value) (l : List Step) (h3 : RSl 2 EStep G vs l) (z : Int) (hz : 0 ≤ z ∧ z ≤ 255) :
    Calls Try.prog 5 #[.agg #[va, vr], vs, .int .u8 z] w0 (Sc w0 (.bool true)) := by
  obtain ⟨oA, cA, rfl, hlA, hmA⟩ := h1.elim
  obtain ⟨oR, cR, rfl, hlR, hmR⟩ := h2.elim
  obtain ⟨oL, cL, rfl, hlL, hmL⟩ := h3.elim
  have hLle := h3.le
  refine enter Try.func5 rfl (N := 120) rfl (Nat.le_of_ble_eq_true rfl) ?_
  have hS := SS.init hG
  refine cw_seq ?_
  refine cw_region ?_
  -- r0.0 t3 := box [25] t0
  refine ol_step rfl (op_box hS rfl rfl) ?_
  clear hS
  rintro _ w ⟨b3, rfl, hS⟩
  -- r0.1 t6 := assign  Cfalse
  refine ol_pure rfl (op_assign rfl) ?_
  refine ol_nil ?_
  refine pq_then ?_
  refine cw_seq ?_
  refine cw_region ?_
  -- r1.0 t18 := call f11 
  refine ol_step rfl (op_call_sc hS cf_11 rfl (L22_head_c G _ hS.hold)) ?_
  clear hS
  rintro _ w ⟨rfl, hS⟩
  -- r1.1 t7 := assign  t18
  refine ol_pure rfl (op_assign rfl) ?_
  refine ol_nil ?_
  refine pq_then ?_
  refine cw_seq ?_
  refine cw_seq ?_
  refine cw_region ?_
  -- r2.0 t19 := load [25] t3
  refine ol_load rfl (op_loadN agg_25 rfl (by rfl) (fun w hw k u hk => (hw.bcell (i := 0) rfl).trans hk)) hS ?_
  -- r2.1 t20 := move  t1
  refine ol_pure rfl (op_move rfl) ?_
  -- r2.2 t21 := build [31] 0:t20
  refine ol_pure rfl (op_build (is := [0]) (xs := [.tmp 20]) (v := .agg #[.slice oL l.length cL, .slice none 0 0]) rfl rfl (fun w => by kernel_rfl)) ?_
  -- r2.3 t22 := call f12 t19 t21
  refine ol_step rfl (op_call_sc hS cf_12 rfl (L22_great_c G _ hS.hold _ _ atoms rs h1 h2 _ _ l [] h3 (RSl.nil _))) ?_
  clear hS
  rintro _ w ⟨rfl, hS⟩
  refine ol_nil ?_
  refine pq_then ?_
  refine cw_cond rfl (fun h22 => ?_) (fun h22 => ?_)
  · skip
    try simp only [decide_eq_true_eq, decide_eq_false_iff_not, Bool.not_eq_true', Bool.not_eq_false', Bool.not_eq_eq_eq_not, Bool.not_true, Bool.not_false] at h22
    refine cw_seq ?_
    refine cw_region ?_
    -- r3.0 t23 := move  t7
    refine ol_pure rfl (op_move rfl) ?_
    -- r3.1 t6 := assign  t23
    refine ol_pure rfl (op_assign rfl) ?_
    refine ol_nil ?_
    refine pq_then ?_
    refine cw_ret ?_
    refine pq_ret ?_
    refine ret1 rfl rfl ?_
    -- ret1 h22t
    exact hS.sc_b rfl
  · skip
    try simp only [decide_eq_true_eq, decide_eq_false_iff_not, Bool.not_eq_true', Bool.not_eq_false', Bool.not_eq_eq_eq_not, Bool.not_true, Bool.not_false] at h22
    have hgr := greatB_f h22
    have hP := PrOk.of_great hgr.1 hgr.2.1
    have hPn := hP.n_le
    have hPm := hP.m_le
    have hle0 := Le.refl G
    have hple := partly_le (rs := rs) l (startI atoms.length)
    have hpl := partly_len (rs := rs) l (startI atoms.length)
    have hpk := fun (k : Nat) => partly_len (rs := rs) (l.take k) (startI atoms.length)
    rw [show (startI atoms.length).length = atoms.length from by simp [startI]] at hpl hpk
    refine cw_skip ?_
    refine pq_then ?_
    refine cw_seq ?_
    refine cw_region ?_
    -- r4.0 t25 := load [25] t3
    refine ol_load rfl (op_loadN agg_25 rfl (by rfl) (fun w hw k u hk => (hw.bcell (i := 0) rfl).trans hk)) hS ?_
    -- r4.1 t26 := move  t1
    refine ol_pure rfl (op_move rfl) ?_
    -- r4.2 t27 := call f19 t25 t26
    refine ol_step rfl (op_call_fr hS cf_19 rfl (judge_Partly_c _ _ hS.hold _ _ atoms rs (h1.mono EAtom.mono hle0) (h2.mono ERule.mono hle0) hP _ l h3)) ?_
    clear hS
    rintro v27 w ⟨F27, G27, hR27, hF27, hf27, hl27, hS⟩
    obtain ⟨vm27, hv, hM⟩ := hR27
    subst hv
    obtain ⟨oM, cM, rfl, _, _⟩ := hM.elimN (n := atoms.length) (by rw [partly_len]; simp [startI])
    replace hM := hM.mono EInt.mono hf27
    
    -- r4.3 t24 := move  t27
    refine ol_pure rfl (op_move rfl) ?_
    -- r4.4 t28 := extract [0] t24
    refine ol_pure rfl (op_extract (vs := [.slice oM atoms.length cM, .int .i64 ((partly rs (startI atoms.length) l).2 : Nat)]) rfl rfl) ?_
    -- r4.5 t29 := extract [1] t24
    refine ol_pure rfl (op_extract (vs := [.slice oM atoms.length cM, .int .i64 ((partly rs (startI atoms.length) l).2 : Nat)]) rfl rfl) ?_
    -- r4.6 t8 := assign  t28
    refine ol_pure rfl (op_assign rfl) ?_
    -- r4.7 t9 := assign  t29
    refine ol_pure rfl (op_assign rfl) ?_
    refine ol_nil ?_
    refine pq_then ?_
    refine cw_seq ?_
    refine cw_seq ?_
    refine cw_region ?_
    -- r5.0 t30 := move  t9
    refine ol_pure rfl (op_move rfl) ?_
    -- r5.1 t31 := lss t30 C0
    refine ol_pure rfl (op_lssF rfl rfl (by omega)) ?_
    -- r5.2 t32 := move  t31
    refine ol_pure rfl (op_move rfl) ?_
    -- r5.3 t33 := move  t9 ?2=False
    refine ol_guard_pure rfl rfl rfl (op_move rfl) ?_
    -- r5.4 t34 := move  t1 ?2=False
    refine ol_guard_pure rfl rfl rfl (op_move rfl) ?_
    -- r5.5 t35 := call len t34 ?2=False
    refine ol_guard_pure rfl rfl rfl (op_len sl_28 rfl rfl) ?_
    -- r5.6 t36 := gtr t33 t35 ?2=False
    refine ol_guard_pure rfl rfl rfl (op_gtrF rfl rfl (by omega)) ?_
    -- r5.7 t37 := pick  t32 Ctrue t36
    refine ol_pure rfl (op_pick_f rfl rfl) ?_
    refine ol_nil ?_
    refine pq_then ?_
    refine cw_cond_f rfl ?_
    refine cw_skip ?_
    refine pq_then ?_
    refine cw_seq ?_
    refine al_start' hS (hS.take 1) (by kernel_rfl) rfl (fun w hS hT => ?_)
    -- r7.0 t39 := load [25] t3
    refine al_load (i := 0) rfl (by kernel_rfl) (by kernel_rfl) (by kernel_rfl) rfl (fun _ _ _ h => h) (by exact op_loadN agg_25 rfl (by rfl) (fun w hw k u hk => (hw.bcell (i := 0) rfl).trans hk)) rfl hT ?_
    -- r7.1 t40 := move  t1
    refine al_take (i := 1) rfl (by kernel_rfl) (by kernel_rfl) (by kernel_rfl) rfl (fun _ _ _ h => h) (op_move rfl) rfl ?_
    -- r7.2 t41 := move  t9
    refine al_take (i := 2) rfl (by kernel_rfl) (by kernel_rfl) (by kernel_rfl) rfl (fun _ _ _ h => h) (op_move rfl) rfl ?_
    -- r7.3 t42 := slice t40 [:t41:]
    have hcut7 := (h3.mono EStep.mono hl27).cut (lo := 0) (hi := (partly rs (startI atoms.length) l).2) (Nat.zero_le _) hple
    obtain ⟨o7, c7, hY7, _, _⟩ := hcut7.elimN (n := (partly rs (startI atoms.length) l).2) (by simp; omega)
    rw [hY7, List.drop_zero] at hcut7
    refine al_take (i := 3) rfl (by kernel_rfl) (by kernel_rfl) (by kernel_rfl) rfl (fun _ _ _ h => h) (op_val (op_slice_h (h := (partly rs (startI atoms.length) l).2) sl_28 rfl rfl (by omega)) hY7) rfl ?_
    refine al_step (i := 4) rfl (by kernel_rfl) rfl (op_call_fr hS cf_19 rfl (judge_Partly_c _ _ hS.hold _ _ atoms rs (h1.mono EAtom.mono hl27) (h2.mono ERule.mono hl27) hP _ (l.take (partly rs (startI atoms.length) l).2) hcut7)) ?_
    clear hS
    rintro v43 w ⟨F43, G43, hR43, hF43, hf43, hl43, hS⟩
    obtain ⟨vm43, hv, hX⟩ := hR43
    rw [partly_self] at hv hX
    subst hv
    obtain ⟨oX, cX, rfl, _, _⟩ := hX.elimN (n := atoms.length) (by rw [partly_len]; simp [startI])
    replace hX := hX.mono EInt.mono hf43
    have hl43b := hl27.trans hl43
    replace hM := hM.mono EInt.mono hl43
    refine ⟨no_need (by kernel_rfl), ?_⟩
    -- r7.5 t38 := move  t43
    refine al_take (i := 5) rfl (by kernel_rfl) (by kernel_rfl) (by kernel_rfl) rfl (fun _ _ _ h => h) (op_move rfl) rfl ?_
    -- r7.6 t44 := extract [0] t38
    refine al_take (i := 6) rfl (by kernel_rfl) (by kernel_rfl) (by kernel_rfl) rfl (fun _ _ _ h => h) (op_extract (vs := [.slice oX atoms.length cX, .int .i64 ((partly rs (startI atoms.length) l).2 : Nat)]) rfl rfl) rfl ?_
    -- r7.7 t45 := extract [1] t38
    refine al_take (i := 7) rfl (by kernel_rfl) (by kernel_rfl) (by kernel_rfl) rfl (fun _ _ _ h => h) (op_extract (vs := [.slice oX atoms.length cX, .int .i64 ((partly rs (startI atoms.length) l).2 : Nat)]) rfl rfl) rfl ?_
    -- r7.8 t10 := assign  t44
    refine al_take (i := 8) rfl (by kernel_rfl) (by kernel_rfl) (by kernel_rfl) rfl (fun _ _ _ h => h) (op_assign rfl) rfl ?_
    -- r7.9 t11 := assign  t45
    refine al_take (i := 9) rfl (by kernel_rfl) (by kernel_rfl) (by kernel_rfl) rfl (fun _ _ _ h => h) (op_assign rfl) rfl ?_
    refine al_done (by kernel_rfl) ?_
    refine pq_then ?_
    refine cw_seq ?_
    refine cw_region ?_
    -- r8.0 t46 := move  t2
    refine ol_pure rfl (op_move rfl) ?_
    -- r8.1 t47 := convert [5, 3] t46
    refine ol_pure rfl (op_conv ⟨_, Try.underlying5⟩ Try.underlying3 rfl (wrap_u8 hz)) ?_
    -- r8.2 t48 := move  t9
    refine ol_pure rfl (op_move rfl) ?_
    -- r8.3 t49 := add t48 C1
    refine ol_pure rfl (op_add rfl rfl (by omega) (by omega)) ?_
    -- r8.4 t50 := rem t47 t49
    obtain ⟨kk, hkk⟩ := Int.eq_ofNat_of_zero_le (Int.emod_nonneg z (show (((partly rs (startI atoms.length) l).2 : Nat) : Int) + 1 ≠ 0 by omega))
    have hk1 := Int.emod_lt_of_pos z (show (0 : Int) < (((partly rs (startI atoms.length) l).2 : Nat) : Int) + 1 by omega)
    have hkn : kk ≤ (partly rs (startI atoms.length) l).2 := by omega
    have hk2 := (partly_take (rs := rs) l (startI atoms.length) kk hkn).1
    refine ol_pure rfl (op_val (op_rem rfl rfl (by omega) (by omega)) (congrArg (Value.int .i64) hkk)) ?_
    -- r8.5 t12 := assign  t50
    refine ol_pure rfl (op_assign rfl) ?_
    refine ol_nil ?_
    refine pq_then ?_
    refine cw_seq ?_
    refine al_start' hS (hS.take 1) (by kernel_rfl) rfl (fun w hS hT => ?_)
    -- r9.0 t52 := load [25] t3
    refine al_load (i := 0) rfl (by kernel_rfl) (by kernel_rfl) (by kernel_rfl) rfl (fun _ _ _ h => h) (by exact op_loadN agg_25 rfl (by rfl) (fun w hw k u hk => (hw.bcell (i := 0) rfl).trans hk)) rfl hT ?_
    -- r9.1 t53 := move  t1
    refine al_take (i := 1) rfl (by kernel_rfl) (by kernel_rfl) (by kernel_rfl) rfl (fun _ _ _ h => h) (op_move rfl) rfl ?_
    -- r9.2 t54 := move  t12
    refine al_take (i := 2) rfl (by kernel_rfl) (by kernel_rfl) (by kernel_rfl) rfl (fun _ _ _ h => h) (op_move rfl) rfl ?_
    -- r9.3 t55 := slice t53 [:t54:]
    have hcut9 := (h3.mono EStep.mono hl43b).cut (lo := 0) (hi := kk) (Nat.zero_le _) (by omega)
    obtain ⟨o9, c9, hY9, _, _⟩ := hcut9.elimN (n := kk) (by simp; omega)
    rw [hY9, List.drop_zero] at hcut9
    refine al_take (i := 3) rfl (by kernel_rfl) (by kernel_rfl) (by kernel_rfl) rfl (fun _ _ _ h => h) (op_val (op_slice_h (h := kk) sl_28 rfl rfl (by omega)) hY9) rfl ?_
    refine al_step (i := 4) rfl (by kernel_rfl) rfl (op_call_fr hS cf_19 rfl (judge_Partly_c _ _ hS.hold _ _ atoms rs (h1.mono EAtom.mono hl43b) (h2.mono ERule.mono hl43b) hP _ (l.take kk) hcut9)) ?_
    clear hS
    rintro v56 w ⟨F56, G56, hR56, hF56, hf56, hl56, hS⟩
    obtain ⟨vm56, hv, hK⟩ := hR56
    rw [hk2] at hv
    subst hv
    obtain ⟨oK, cK, rfl, _, _⟩ := hK.elimN (n := atoms.length) (by rw [partly_len]; simp [startI])
    replace hK := hK.mono EInt.mono hf56
    have hl56b := hl43b.trans hl56
    replace hM := hM.mono EInt.mono hl56
    replace hX := hX.mono EInt.mono hl56
    refine ⟨no_need (by kernel_rfl), ?_⟩
    -- r9.5 t51 := move  t56
    refine al_take (i := 5) rfl (by kernel_rfl) (by kernel_rfl) (by kernel_rfl) rfl (fun _ _ _ h => h) (op_move rfl) rfl ?_
    -- r9.6 t57 := extract [0] t51
    refine al_take (i := 6) rfl (by kernel_rfl) (by kernel_rfl) (by kernel_rfl) rfl (fun _ _ _ h => h) (op_extract (vs := [.slice oK atoms.length cK, .int .i64 (kk : Nat)]) rfl rfl) rfl ?_
    -- r9.7 t58 := extract [1] t51
    refine al_take (i := 7) rfl (by kernel_rfl) (by kernel_rfl) (by kernel_rfl) rfl (fun _ _ _ h => h) (op_extract (vs := [.slice oK atoms.length cK, .int .i64 (kk : Nat)]) rfl rfl) rfl ?_
    -- r9.8 t13 := assign  t57
    refine al_take (i := 8) rfl (by kernel_rfl) (by kernel_rfl) (by kernel_rfl) rfl (fun _ _ _ h => h) (op_assign rfl) rfl ?_
    -- r9.9 t14 := assign  t58
    refine al_take (i := 9) rfl (by kernel_rfl) (by kernel_rfl) (by kernel_rfl) rfl (fun _ _ _ h => h) (op_assign rfl) rfl ?_
    refine al_done (by kernel_rfl) ?_
    refine pq_then ?_
    refine cw_seq ?_
    refine cw_seq ?_
    refine cw_region ?_
    -- r10.0 t59 := move  t11
    refine ol_pure rfl (op_move rfl) ?_
    -- r10.1 t60 := move  t9
    refine ol_pure rfl (op_move rfl) ?_
    -- r10.2 t61 := neq t59 t60
    refine ol_pure rfl (op_neqF rfl rfl rfl) ?_
    -- r10.3 t62 := move  t61
    refine ol_pure rfl (op_move rfl) ?_
    -- r10.4 t63 := move  t10 ?3=False
    refine ol_guard_pure rfl rfl rfl (op_move rfl) ?_
    -- r10.5 t64 := move  t8 ?3=False
    refine ol_guard_pure rfl rfl rfl (op_move rfl) ?_
    -- r10.6 t65 := call f16 t63 t64 ?3=False
    refine ol_guard_step rfl rfl rfl (op_call_sc hS cf_16 rfl (calls_t (decide_eq_true rfl) (R07_Ints_c _ _ hS.hold _ _ (partly rs (startI atoms.length) l).1 (partly rs (startI atoms.length) l).1 hX hM))) ?_
    clear hS
    rintro _ w ⟨rfl, hS⟩
    -- r10.7 t66 := not t65 ?3=False
    refine ol_guard_pure rfl rfl rfl (op_not rfl) ?_
    -- r10.8 t67 := pick  t62 Ctrue t66
    refine ol_pure rfl (op_pick_f rfl rfl) ?_
    -- r10.9 t68 := move  t67
    refine ol_pure rfl (op_move rfl) ?_
    -- r10.10 t69 := move  t14 ?9=False
    refine ol_guard_pure rfl rfl rfl (op_move rfl) ?_
    -- r10.11 t70 := move  t12 ?9=False
    refine ol_guard_pure rfl rfl rfl (op_move rfl) ?_
    -- r10.12 t71 := neq t69 t70 ?9=False
    refine ol_guard_pure rfl rfl rfl (op_neqF rfl rfl rfl) ?_
    -- r10.13 t72 := pick  t68 Ctrue t71
    refine ol_pure rfl (op_pick_f rfl rfl) ?_
    -- r10.14 t73 := move  t72
    refine ol_pure rfl (op_move rfl) ?_
    -- r10.15 t74 := move  t13 ?14=False
    refine ol_guard_pure rfl rfl rfl (op_move rfl) ?_
    -- r10.16 t75 := call len t74 ?14=False
    refine ol_guard_pure rfl rfl rfl (op_len sl_29 rfl rfl) ?_
    -- r10.17 t76 := move  t8 ?14=False
    refine ol_guard_pure rfl rfl rfl (op_move rfl) ?_
    -- r10.18 t77 := call len t76 ?14=False
    refine ol_guard_pure rfl rfl rfl (op_len sl_29 rfl rfl) ?_
    -- r10.19 t78 := neq t75 t77 ?14=False
    refine ol_guard_pure rfl rfl rfl (op_neqF rfl rfl rfl) ?_
    -- r10.20 t79 := pick  t73 Ctrue t78
    refine ol_pure rfl (op_pick_f rfl rfl) ?_
    refine ol_nil ?_
    refine pq_then ?_
    refine cw_cond_f rfl ?_
    refine cw_skip ?_
    refine pq_then ?_
    refine cw_seq ?_
    refine cw_seq ?_
    refine cw_region ?_
    -- r12.0 t15 := assign  C0
    refine ol_pure rfl (op_assign rfl) ?_
    refine ol_nil ?_
    refine pq_then ?_
    refine cw_block ?_
    refine cw_loop (fun e w n => ∃ k : Nat, e = [(1, .slice oL l.length cL), (3, .pointer (some ⟨b3, 0, none⟩)), (7, .bool true), (8, .slice oM atoms.length cM), (9, .int .i64 ((partly rs (startI atoms.length) l).2 : Nat)), (13, .slice oK atoms.length cK), (15, .int .i64 (k : Nat))] ∧ k ≤ atoms.length ∧ n = atoms.length - k ∧ SS G w0 G56 [.blk b3 25 [.slice oA atoms.length cA, .slice oR rs.length cR]] w) _ _ (by exact ⟨0, rfl, Nat.zero_le _, rfl, hS⟩) ((Sub.cons rfl (Sub.cons rfl (Sub.cons rfl (Sub.cons rfl (Sub.cons rfl (Sub.cons rfl (Sub.cons rfl Sub.nil)))))))) ?_
    clear hS
    rintro e w n ⟨k, rfl, hk, rfl, hS⟩
    refine cw_seq ?_
    refine cw_seq ?_
    refine cw_region ?_
    -- r13.0 t80 := move  t15
    refine ol_pure rfl (op_move rfl) ?_
    -- r13.1 t81 := move  t13
    refine ol_pure rfl (op_move rfl) ?_
    -- r13.2 t82 := call len t81
    refine ol_pure rfl (op_len sl_29 rfl rfl) ?_
    -- r13.3 t83 := lss t80 t82
    refine ol_pure rfl (op_lss rfl rfl) ?_
    refine ol_nil ?_
    refine pq_then ?_
    refine cw_cond rfl (fun h83 => ?_) (fun h83 => ?_)
    · skip
      try simp only [decide_eq_true_eq, decide_eq_false_iff_not, Bool.not_eq_true', Bool.not_eq_false', Bool.not_eq_eq_eq_not, Bool.not_true, Bool.not_false] at h83
      have hlt : k < atoms.length := by omega
      have hltM : k < (partly rs (startI atoms.length) l).1.length := by omega
      have hltK : k < (partly rs (startI atoms.length) (l.take kk)).1.length := by rw [hpk]; exact hlt
      obtain ⟨hoM, hcM, _⟩ := hM.int hltM
      obtain ⟨hoK, hcK, _⟩ := hK.int hltK
      refine cw_skip ?_
      refine pq_then ?_
      refine cw_seq ?_
      refine cw_block ?_
      refine cw_seq ?_
      refine al_start' hS (hS.take 0) (by kernel_rfl) rfl (fun w hS hT => ?_)
      -- r15.0 t86 := move  t13
      refine al_take (i := 0) rfl (by kernel_rfl) (by kernel_rfl) (by kernel_rfl) rfl (fun _ _ _ h => h) (op_move rfl) rfl ?_
      -- r15.1 t87 := move  t15
      refine al_take (i := 1) rfl (by kernel_rfl) (by kernel_rfl) (by kernel_rfl) rfl (fun _ _ _ h => h) (op_move rfl) rfl ?_
      -- r15.2 t88 := indexAddr [29] t86 t87
      refine al_take (i := 2) rfl (by kernel_rfl) (by kernel_rfl) (by kernel_rfl) rfl (fun _ _ _ h => h) (op_indexN sl_29 rfl rfl (by omega) hoK) rfl ?_
      -- r15.3 t89 := load [3] t88
      refine al_load (i := 3) rfl (by kernel_rfl) (by kernel_rfl) (by kernel_rfl) rfl (fun _ _ _ h => h) (by exact op_load1 one_3 rfl (fun w hw => hw.gcell hcK)) rfl hT ?_
      -- r15.4 t90 := neq t89 C1
      refine al_take (i := 4) rfl (by kernel_rfl) (by kernel_rfl) (by kernel_rfl) rfl (fun _ _ _ h => h) (op_neq rfl rfl) rfl ?_
      -- r15.5 t91 := move  t90
      refine al_take (i := 5) rfl (by kernel_rfl) (by kernel_rfl) (by kernel_rfl) rfl (fun _ _ _ h => h) (op_move rfl) rfl ?_
      refine al_split (fun h91 => ?_) (fun h91 => ?_)
      · skip
        try simp only [decide_eq_true_eq, decide_eq_false_iff_not, Bool.not_eq_true', Bool.not_eq_false', Bool.not_eq_eq_eq_not, Bool.not_true, Bool.not_false] at h91
        have hsm : (partly rs (startI atoms.length) (l.take kk)).1[k] = (partly rs (startI atoms.length) l).1[k] := by
          have hh := parts_keep (rs := rs) (l := l) (m := startI atoms.length) hkn (a := (k : Int)) (by omega) (by simp [startI]; omega) (by rw [val_at hltK]; exact h91)
          rw [val_at hltK, val_at hltM] at hh
          exact hh.symm
        -- r15.6 t92 := move  t13 ?5=True
        refine al_gtake (i := 6) rfl (by kernel_rfl) (by kernel_rfl) (by kernel_rfl) rfl rfl rfl (fun _ _ _ h => h) (op_move rfl) rfl ?_
        -- r15.7 t93 := move  t15 ?5=True
        refine al_gtake (i := 7) rfl (by kernel_rfl) (by kernel_rfl) (by kernel_rfl) rfl rfl rfl (fun _ _ _ h => h) (op_move rfl) rfl ?_
        -- r15.8 t94 := indexAddr [29] t92 t93 ?5=True
        refine al_gtake (i := 8) rfl (by kernel_rfl) (by kernel_rfl) (by kernel_rfl) rfl rfl rfl (fun _ _ _ h => h) (op_indexN sl_29 rfl rfl (by omega) hoK) rfl ?_
        -- r15.9 t95 := load [3] t94 ?5=True
        refine al_gload (i := 9) rfl (by kernel_rfl) (by kernel_rfl) (by kernel_rfl) rfl rfl rfl (fun _ _ _ h => h) (by exact op_load1 one_3 rfl (fun w hw => hw.gcell hcK)) rfl hT ?_
        -- r15.10 t96 := move  t8 ?5=True
        refine al_gtake (i := 10) rfl (by kernel_rfl) (by kernel_rfl) (by kernel_rfl) rfl rfl rfl (fun _ _ _ h => h) (op_move rfl) rfl ?_
        -- r15.11 t97 := move  t15 ?5=True
        refine al_gtake (i := 11) rfl (by kernel_rfl) (by kernel_rfl) (by kernel_rfl) rfl rfl rfl (fun _ _ _ h => h) (op_move rfl) rfl ?_
        -- r15.12 t98 := indexAddr [29] t96 t97 ?5=True
        refine al_gtake (i := 12) rfl (by kernel_rfl) (by kernel_rfl) (by kernel_rfl) rfl rfl rfl (fun _ _ _ h => h) (op_indexN sl_29 rfl rfl (by omega) hoM) rfl ?_
        -- r15.13 t99 := load [3] t98 ?5=True
        refine al_gload (i := 13) rfl (by kernel_rfl) (by kernel_rfl) (by kernel_rfl) rfl rfl rfl (fun _ _ _ h => h) (by exact op_load1 one_3 rfl (fun w hw => hw.gcell hcM)) rfl hT ?_
        -- r15.14 t100 := neq t95 t99 ?5=True
        refine al_gtake (i := 14) rfl (by kernel_rfl) (by kernel_rfl) (by kernel_rfl) rfl rfl rfl (fun _ _ _ h => h) (op_neqF rfl rfl hsm) rfl ?_
        -- r15.15 t101 := pick  t91 t100 Cfalse
        refine al_take (i := 15) rfl (by kernel_rfl) (by kernel_rfl) (by kernel_rfl) rfl (fun _ _ _ h => h) (op_pick_t rfl rfl) rfl ?_
        refine al_done (by kernel_rfl) ?_
        refine pq_then ?_
        refine cw_cond_f rfl ?_
        refine cw_skip ?_
        refine pq_in_normal ?_
        refine pq_then ?_
        refine cw_region ?_
        -- r14.0 t84 := move  t15
        refine ol_pure rfl (op_move rfl) ?_
        -- r14.1 t85 := add t84 C1
        refine ol_pure rfl (op_add rfl rfl (by omega) (by omega)) ?_
        -- r14.2 t15 := assign  t85
        refine ol_pure rfl (op_assign rfl) ?_
        refine ol_nil ?_
        -- end of round 1 h22f h83t h91t
        refine pq_loop _ _ (by exact ⟨k + 1, rfl, by omega, rfl, hS⟩) ((Sub.cons rfl (Sub.cons rfl (Sub.cons rfl (Sub.cons rfl (Sub.cons rfl (Sub.cons rfl (Sub.cons rfl Sub.nil)))))))) (by omega)
      · skip
        try simp only [decide_eq_true_eq, decide_eq_false_iff_not, Bool.not_eq_true', Bool.not_eq_false', Bool.not_eq_eq_eq_not, Bool.not_true, Bool.not_false] at h91
        refine al_gskip (i := 6) rfl (by kernel_rfl) (by kernel_rfl) (by kernel_rfl) rfl rfl rfl rfl (fun _ _ _ h => h) (fun _ => hT) ?_
        refine al_gskip (i := 7) rfl (by kernel_rfl) (by kernel_rfl) (by kernel_rfl) rfl rfl rfl rfl (fun _ _ _ h => h) (fun _ => hT) ?_
        refine al_gskip (i := 8) rfl (by kernel_rfl) (by kernel_rfl) (by kernel_rfl) rfl rfl rfl rfl (fun _ _ _ h => h) (fun _ => hT) ?_
        refine al_gskip (i := 9) rfl (by kernel_rfl) (by kernel_rfl) (by kernel_rfl) rfl rfl rfl rfl (fun _ _ _ h => h) (fun _ => hT) ?_
        refine al_gskip (i := 10) rfl (by kernel_rfl) (by kernel_rfl) (by kernel_rfl) rfl rfl rfl rfl (fun _ _ _ h => h) (fun _ => hT) ?_
        refine al_gskip (i := 11) rfl (by kernel_rfl) (by kernel_rfl) (by kernel_rfl) rfl rfl rfl rfl (fun _ _ _ h => h) (fun _ => hT) ?_
        refine al_gskip (i := 12) rfl (by kernel_rfl) (by kernel_rfl) (by kernel_rfl) rfl rfl rfl rfl (fun _ _ _ h => h) (fun _ => hT) ?_
        refine al_gskip (i := 13) rfl (by kernel_rfl) (by kernel_rfl) (by kernel_rfl) rfl rfl rfl rfl (fun _ _ _ h => h) (fun _ => hT) ?_
        refine al_gskip (i := 14) rfl (by kernel_rfl) (by kernel_rfl) (by kernel_rfl) rfl rfl rfl rfl (fun _ _ _ h => h) (fun _ => hT) ?_
        -- r15.15 t101 := pick  t91 t100 Cfalse
        refine al_take (i := 15) rfl (by kernel_rfl) (by kernel_rfl) (by kernel_rfl) rfl (fun _ _ _ h => h) (op_pick_f rfl rfl) rfl ?_
        refine al_done (by kernel_rfl) ?_
        refine pq_then ?_
        refine cw_cond_f rfl ?_
        refine cw_skip ?_
        refine pq_in_normal ?_
        refine pq_then ?_
        refine cw_region ?_
        -- r14.0 t84 := move  t15
        refine ol_pure rfl (op_move rfl) ?_
        -- r14.1 t85 := add t84 C1
        refine ol_pure rfl (op_add rfl rfl (by omega) (by omega)) ?_
        -- r14.2 t15 := assign  t85
        refine ol_pure rfl (op_assign rfl) ?_
        refine ol_nil ?_
        -- end of round 1 h22f h83t h91f
        refine pq_loop _ _ (by exact ⟨k + 1, rfl, by omega, rfl, hS⟩) ((Sub.cons rfl (Sub.cons rfl (Sub.cons rfl (Sub.cons rfl (Sub.cons rfl (Sub.cons rfl (Sub.cons rfl Sub.nil)))))))) (by omega)
    · skip
      try simp only [decide_eq_true_eq, decide_eq_false_iff_not, Bool.not_eq_true', Bool.not_eq_false', Bool.not_eq_eq_eq_not, Bool.not_true, Bool.not_false] at h83
      refine cw_exit ?_
      refine pq_exit ?_
      refine pq_exit ?_
      refine pq_in_exit ?_
      refine pq_then ?_
      refine cw_seq ?_
      refine cw_region ?_
      -- r17.0 t103 := load [25] t3
      refine ol_load rfl (op_loadN agg_25 rfl (by rfl) (fun w hw k u hk => (hw.bcell (i := 0) rfl).trans hk)) hS ?_
      -- r17.1 t104 := move  t1
      refine ol_pure rfl (op_move rfl) ?_
      -- r17.2 t105 := build [31] 0:t104
      refine ol_pure rfl (op_build (is := [0]) (xs := [.tmp 104]) (v := .agg #[.slice oL l.length cL, .slice none 0 0]) rfl rfl (fun w => by kernel_rfl)) ?_
      -- r17.3 t106 := call f14 t103 t105
      refine ol_step rfl (op_call_fr hS cf_14 rfl (judge_Check_c _ _ hS.hold _ _ atoms rs (h1.mono EAtom.mono hl56b) (h2.mono ERule.mono hl56b) hP _ _ l [] (h3.mono EStep.mono hl56b) (RSl.nil _))) ?_
      clear hS
      rintro v106 w ⟨F106, G106, hR106, hF106, hf106, hl106, hS⟩
      obtain ⟨vm106, hv, _⟩ := hR106
      subst hv
      -- r17.4 t102 := move  t106
      refine ol_pure rfl (op_move rfl) ?_
      -- r17.5 t107 := extract [0] t102
      refine ol_pure rfl (op_extract (vs := [vm106, .bool (checkI rs atoms.length l []).isSome]) rfl rfl) ?_
      -- r17.6 t108 := extract [1] t102
      refine ol_pure rfl (op_extract (vs := [vm106, .bool (checkI rs atoms.length l []).isSome]) rfl rfl) ?_
      -- r17.7 t16 := assign  t107
      refine ol_pure rfl (op_assign rfl) ?_
      -- r17.8 t17 := assign  t108
      refine ol_pure rfl (op_assign rfl) ?_
      refine ol_nil ?_
      refine pq_then ?_
      refine cw_seq ?_
      refine cw_region ?_
      -- r18.0 t109 := move  t7
      refine ol_pure rfl (op_move rfl) ?_
      -- r18.1 t110 := move  t109
      refine ol_pure rfl (op_move rfl) ?_
      -- r18.2 t111 := move  t9 ?1=True
      refine ol_guard_pure rfl rfl rfl (op_move rfl) ?_
      -- r18.3 t112 := move  t1 ?1=True
      refine ol_guard_pure rfl rfl rfl (op_move rfl) ?_
      -- r18.4 t113 := call len t112 ?1=True
      refine ol_guard_pure rfl rfl rfl (op_len sl_28 rfl rfl) ?_
      -- r18.5 t114 := eql t111 t113 ?1=True
      refine ol_guard_pure rfl rfl rfl (op_eql rfl rfl) ?_
      -- r18.6 t115 := move  t114 ?1=True
      refine ol_guard_pure rfl rfl rfl (op_move rfl) ?_
      refine ol_split (fun h115 => ?_) (fun h115 => ?_)
      · skip
        try simp only [decide_eq_true_eq, decide_eq_false_iff_not, Bool.not_eq_true', Bool.not_eq_false', Bool.not_eq_eq_eq_not, Bool.not_true, Bool.not_false] at h115
        refine ol_guard_no rfl rfl rfl rfl ?_
        refine ol_guard_no rfl rfl rfl rfl ?_
        -- r18.9 t118 := pick  t115 Ctrue t117 ?1=True
        refine ol_guard_pure rfl rfl rfl (op_pick_t rfl rfl) ?_
        -- r18.10 t119 := pick  t110 t118 Cfalse
        refine ol_pure rfl (op_pick_t rfl rfl) ?_
        -- r18.11 t6 := assign  t119
        refine ol_pure rfl (op_assign rfl) ?_
        refine ol_nil ?_
        refine pq_then ?_
        refine cw_ret ?_
        refine ret1 rfl rfl ?_
        -- ret5 h22f h83f h115t
        exact hS.sc_b rfl
      · skip
        try simp only [decide_eq_true_eq, decide_eq_false_iff_not, Bool.not_eq_true', Bool.not_eq_false', Bool.not_eq_eq_eq_not, Bool.not_true, Bool.not_false] at h115
        -- r18.7 t116 := move  t17 ?6=False
        refine ol_guard_pure rfl rfl rfl (op_move rfl) ?_
        -- r18.8 t117 := not t116 ?6=False
        refine ol_guard_pure rfl rfl rfl (op_not rfl) ?_
        -- r18.9 t118 := pick  t115 Ctrue t117 ?1=True
        refine ol_guard_pure rfl rfl rfl (op_pick_f rfl rfl) ?_
        -- r18.10 t119 := pick  t110 t118 Cfalse
        refine ol_pure rfl (op_pick_t rfl rfl) ?_
        -- r18.11 t6 := assign  t119
        refine ol_pure rfl (op_assign rfl) ?_
        refine ol_nil ?_
        refine pq_then ?_
        refine cw_ret ?_
        refine ret1 rfl rfl ?_
        -- ret5 h22f h83f h115f
        have hck : (checkI rs atoms.length l []) = none := by unfold checkI; rw [if_neg (fun hh => h115 (by have := hh.1; omega))]
        exact hS.sc_b (by rw [hck]; rfl)
set_option maxRecDepth 100000 in
set_option maxHeartbeats 1000000 in

theorem L22_JudgeNone_c (G : GH) (w0 : World) (hG : Holds G w0) (va vr : Value) (atoms : List (List Cell)) (rs : List Rule) (h1 : RSl 1 EAtom G va atoms) (h2 : RSl 3 ERule G vr rs)  :
    Calls Try.prog 9 #[.agg #[va, vr]] w0 (Sc w0 (.bool true)) := by
  obtain ⟨oA, cA, rfl, hlA, hmA⟩ := h1.elim
  obtain ⟨oR, cR, rfl, hlR, hmR⟩ := h2.elim
  refine enter Try.func9 rfl (N := 63) rfl (Nat.le_of_ble_eq_true rfl) ?_
  have hS := SS.init hG
  refine cw_seq ?_
  refine cw_region ?_
  -- r0.0 t1 := box [25] t0
  refine ol_step rfl (op_box hS rfl rfl) ?_
  clear hS
  rintro _ w ⟨b1, rfl, hS⟩
  -- r0.1 t2 := assign  Cfalse
  refine ol_pure rfl (op_assign rfl) ?_
  refine ol_nil ?_
  refine pq_then ?_
  refine cw_seq ?_
  refine cw_region ?_
  -- r1.0 t10 := call f11 
  refine ol_step rfl (op_call_sc hS cf_11 rfl (L22_head_c G _ hS.hold)) ?_
  clear hS
  rintro _ w ⟨rfl, hS⟩
  -- r1.1 t3 := assign  t10
  refine ol_pure rfl (op_assign rfl) ?_
  refine ol_nil ?_
  refine pq_then ?_
  refine cw_seq ?_
  refine cw_seq ?_
  refine cw_region ?_
  -- r2.0 t11 := load [25] t1
  refine ol_load rfl (op_loadN agg_25 rfl (by rfl) (fun w hw k u hk => (hw.bcell (i := 0) rfl).trans hk)) hS ?_
  -- r2.1 t12 := build [31] 
  refine ol_pure rfl (op_build (is := []) (xs := []) (v := .agg #[.slice none 0 0, .slice none 0 0]) rfl rfl (fun w => by kernel_rfl)) ?_
  -- r2.2 t13 := call f12 t11 t12
  refine ol_step rfl (op_call_sc hS cf_12 rfl (L22_great_c G _ hS.hold _ _ atoms rs h1 h2 _ _ [] [] (RSl.nil _) (RSl.nil _))) ?_
  clear hS
  rintro _ w ⟨rfl, hS⟩
  refine ol_nil ?_
  refine pq_then ?_
  refine cw_cond rfl (fun h13 => ?_) (fun h13 => ?_)
  · skip
    try simp only [decide_eq_true_eq, decide_eq_false_iff_not, Bool.not_eq_true', Bool.not_eq_false', Bool.not_eq_eq_eq_not, Bool.not_true, Bool.not_false] at h13
    refine cw_seq ?_
    refine cw_region ?_
    -- r3.0 t14 := move  t3
    refine ol_pure rfl (op_move rfl) ?_
    -- r3.1 t2 := assign  t14
    refine ol_pure rfl (op_assign rfl) ?_
    refine ol_nil ?_
    refine pq_then ?_
    refine cw_ret ?_
    refine pq_ret ?_
    refine ret1 rfl rfl ?_
    -- ret1 h13t
    exact hS.sc_b rfl
  · skip
    try simp only [decide_eq_true_eq, decide_eq_false_iff_not, Bool.not_eq_true', Bool.not_eq_false', Bool.not_eq_eq_eq_not, Bool.not_true, Bool.not_false] at h13
    have hgr := greatB_f h13
    have hP := PrOk.of_great hgr.1 hgr.2.1
    have hPn := hP.n_le
    have hPm := hP.m_le
    have hle0 := Le.refl G
    refine cw_skip ?_
    refine pq_then ?_
    refine cw_seq ?_
    refine cw_region ?_
    -- r4.0 t15 := buildSlice [29, 0] 
    refine ol_step rfl (op_buildSlice (el := 3) (is := []) (xs := []) (sz := 1) (cs := []) hS rfl rfl (fun w => by kernel_rfl) rfl (by decide)) ?_
    clear hS
    rintro _ w ⟨o4, rfl, hS⟩
    -- r4.1 t4 := assign  t15
    refine ol_pure rfl (op_assign rfl) ?_
    refine ol_nil ?_
    refine pq_then ?_
    refine cw_seq ?_
    refine cw_region ?_
    -- r5.0 t16 := load [25] t1
    refine ol_load rfl (op_loadN agg_25 rfl (by rfl) (fun w hw k u hk => (hw.bcell (i := 1) rfl).trans hk)) hS ?_
    -- r5.1 t17 := call f17 t16
    refine ol_step rfl (op_call_fr hS cf_17 rfl (wfm_Model_c _ _ hS.hold EAtom.mono _ _ atoms rs (h1.mono EAtom.mono hle0) (h2.mono ERule.mono hle0) hP)) ?_
    clear hS
    rintro v17 w ⟨F17, G17, hR17, hF17, hf17, hl17, hS⟩
    obtain ⟨oW, cW, rfl, _, _⟩ := hR17.elimN (modelI_len _ _)
    have hW := hR17.mono EInt.mono hf17
    
    -- r5.2 t5 := assign  t17
    refine ol_pure rfl (op_assign rfl) ?_
    refine ol_nil ?_
    refine pq_then ?_
    refine cw_seq ?_
    refine cw_region ?_
    -- r6.0 t18 := move  t5
    refine ol_pure rfl (op_move rfl) ?_
    -- r6.1 t19 := call len t18
    refine ol_pure rfl (op_len sl_29 rfl rfl) ?_
    -- r6.2 t20 := fieldAddr [25, 0] t1
    refine ol_pure rfl (op_fieldAddr fld_25_0 rfl) ?_
    -- r6.3 t21 := load [22] t20
    refine ol_load rfl (op_load1 one_22 rfl (fun w hw => (hw.bcell (i := 1) rfl).trans rfl)) hS ?_
    -- r6.4 t22 := call len t21
    refine ol_pure rfl (op_len sl_22 rfl rfl) ?_
    -- r6.5 t23 := eql t19 t22
    refine ol_pure rfl (op_eqlT rfl rfl rfl) ?_
    -- r6.6 t6 := assign  t23
    refine ol_pure rfl (op_assign rfl) ?_
    refine ol_nil ?_
    refine pq_then ?_
    refine cw_seq ?_
    refine cw_seq ?_
    refine cw_region ?_
    -- r7.0 t7 := assign  C0
    refine ol_pure rfl (op_assign rfl) ?_
    refine ol_nil ?_
    refine pq_then ?_
    refine cw_block ?_
    refine cw_loop (fun e w n => ∃ (k : Nat) (o4 : Option Addr) (c4 : Nat) (al : Bool), e = [(1, .pointer (some ⟨b1, 0, none⟩)), (3, .bool true), (4, .slice o4 k c4), (5, .slice oW atoms.length cW), (6, .bool al), (7, .int .i64 (k : Nat))] ∧ k ≤ atoms.length ∧ n = atoms.length - k ∧ al = ((modelI atoms.length rs).take k).all (fun v => decide (v = 1)) ∧ SS G w0 G17 [.row o4 k c4 3 1 ((List.replicate k (1 : Int)).map (Value.int .i64)), .blk b1 25 [.slice oA atoms.length cA, .slice oR rs.length cR]] w) _ _ (by exact ⟨0, o4, _, true, rfl, Nat.zero_le _, rfl, rfl, hS⟩) ((Sub.cons rfl (Sub.cons rfl (Sub.cons rfl (Sub.cons rfl (Sub.cons rfl (Sub.cons rfl Sub.nil))))))) ?_
    clear hS
    rintro e w n ⟨k, o4, c4, al, rfl, hk, rfl, hal, hS⟩
    refine cw_seq ?_
    refine cw_seq ?_
    refine cw_region ?_
    -- r8.0 t24 := move  t7
    refine ol_pure rfl (op_move rfl) ?_
    -- r8.1 t25 := fieldAddr [25, 0] t1
    refine ol_pure rfl (op_fieldAddr fld_25_0 rfl) ?_
    -- r8.2 t26 := load [22] t25
    refine ol_load rfl (op_load1 one_22 rfl (fun w hw => (hw.bcell (i := 1) rfl).trans rfl)) hS ?_
    -- r8.3 t27 := call len t26
    refine ol_pure rfl (op_len sl_22 rfl rfl) ?_
    -- r8.4 t28 := lss t24 t27
    refine ol_pure rfl (op_lss rfl rfl) ?_
    refine ol_nil ?_
    refine pq_then ?_
    refine cw_cond rfl (fun h28 => ?_) (fun h28 => ?_)
    · skip
      try simp only [decide_eq_true_eq, decide_eq_false_iff_not, Bool.not_eq_true', Bool.not_eq_false', Bool.not_eq_eq_eq_not, Bool.not_true, Bool.not_false] at h28
      have hlt : k < atoms.length := by omega
      have hltW : k < (modelI atoms.length rs).length := by rw [modelI_len]; exact hlt
      obtain ⟨hoW, hcW, _⟩ := hW.int hltW
      have hat := Pl.all_take_succ (fun v : Int => decide (v = 1)) (modelI atoms.length rs) k hltW
      refine cw_skip ?_
      refine pq_then ?_
      refine cw_seq ?_
      refine cw_block ?_
      refine cw_seq ?_
      refine cw_region ?_
      -- r10.0 t31 := move  t4
      refine ol_pure rfl (op_move rfl) ?_
      -- r10.1 t32 := buildSlice [29, 1] 0:C1
      refine ol_step rfl (op_buildSlice (el := 3) (is := [0]) (xs := [.const (.int .i64 (1))]) (sz := 1) (cs := [.int .i64 (1)]) hS rfl rfl (fun w => by kernel_rfl) rfl (by decide)) ?_
      clear hS
      rintro _ w ⟨s32, rfl, hS⟩
      -- r10.2 t33 := call append t31 t32
      refine ol_step rfl (op_append (j := 1) hS sl_29 el_3 rfl rfl rfl rfl rfl rfl (by decide) (hS.news (j := 0) rfl) (by simp [Value.oneCell']) (by omega) (by unfold maxLen; omega)) ?_
      clear hS
      rintro _ w ⟨o4n, c_o4n, rfl, hS⟩; (try simp only [List.nil_append, List.cons_append, List.set] at hS); replace hS := SS.drop [] hS; (try simp only [List.nil_append, List.cons_append] at hS)
      -- r10.3 t4 := assign  t33
      refine ol_pure rfl (op_assign rfl) ?_
      refine ol_nil ?_
      refine pq_then ?_
      refine cw_region ?_
      -- r11.0 t34 := move  t6
      refine ol_pure rfl (op_move rfl) ?_
      -- r11.1 t35 := move  t34
      refine ol_pure rfl (op_move rfl) ?_
      refine ol_split (fun h35 => ?_) (fun h35 => ?_)
      · skip
        try simp only [decide_eq_true_eq, decide_eq_false_iff_not, Bool.not_eq_true', Bool.not_eq_false', Bool.not_eq_eq_eq_not, Bool.not_true, Bool.not_false] at h35
        -- r11.2 t36 := move  t7 ?1=True
        refine ol_guard_pure rfl rfl rfl (op_move rfl) ?_
        -- r11.3 t37 := move  t5 ?1=True
        refine ol_guard_pure rfl rfl rfl (op_move rfl) ?_
        -- r11.4 t38 := call len t37 ?1=True
        refine ol_guard_pure rfl rfl rfl (op_len sl_29 rfl rfl) ?_
        -- r11.5 t39 := lss t36 t38 ?1=True
        refine ol_guard_pure rfl rfl rfl (op_lss rfl rfl) ?_
        -- r11.6 t40 := pick  t35 t39 Cfalse
        refine ol_pure rfl (op_pick_t rfl rfl) ?_
        -- r11.7 t41 := move  t40
        refine ol_pure rfl (op_move rfl) ?_
        refine ol_split (fun h41 => ?_) (fun h41 => ?_)
        · skip
          try simp only [decide_eq_true_eq, decide_eq_false_iff_not, Bool.not_eq_true', Bool.not_eq_false', Bool.not_eq_eq_eq_not, Bool.not_true, Bool.not_false] at h41
          -- r11.8 t42 := move  t5 ?7=True
          refine ol_guard_pure rfl rfl rfl (op_move rfl) ?_
          -- r11.9 t43 := move  t7 ?7=True
          refine ol_guard_pure rfl rfl rfl (op_move rfl) ?_
          -- r11.10 t44 := indexAddr [29] t42 t43 ?7=True
          refine ol_guard_pure rfl rfl rfl (op_indexN sl_29 rfl rfl (by omega) hoW) ?_
          -- r11.11 t45 := load [3] t44 ?7=True
          refine ol_guard_load rfl rfl rfl (op_load1 one_3 rfl (fun w hw => hw.gcell hcW)) hS ?_
          -- r11.12 t46 := eql t45 C1 ?7=True
          refine ol_guard_pure rfl rfl rfl (op_eql rfl rfl) ?_
          -- r11.13 t47 := pick  t41 t46 Cfalse
          refine ol_pure rfl (op_pick_t rfl rfl) ?_
          -- r11.14 t6 := assign  t47
          refine ol_pure rfl (op_assign rfl) ?_
          refine ol_nil ?_
          refine pq_in_normal ?_
          refine pq_then ?_
          refine cw_region ?_
          -- r9.0 t29 := move  t7
          refine ol_pure rfl (op_move rfl) ?_
          -- r9.1 t30 := add t29 C1
          refine ol_pure rfl (op_add rfl rfl (by omega) (by omega)) ?_
          -- r9.2 t7 := assign  t30
          refine ol_pure rfl (op_assign rfl) ?_
          refine ol_nil ?_
          -- end of round 1 h13f h28t h35t h41t
          refine pq_loop _ _ (by exact ⟨k + 1, o4n, c_o4n, decide ((modelI atoms.length rs)[k] = 1), rfl, by omega, rfl, by rw [hat, ← hal, h35, Bool.true_and], by rw [List.replicate_succ']; simpa using hS⟩) ((Sub.cons rfl (Sub.cons rfl (Sub.cons rfl (Sub.cons rfl (Sub.cons rfl (Sub.cons rfl Sub.nil))))))) (by omega)
        · skip
          try simp only [decide_eq_true_eq, decide_eq_false_iff_not, Bool.not_eq_true', Bool.not_eq_false', Bool.not_eq_eq_eq_not, Bool.not_true, Bool.not_false] at h41
          refine ol_guard_no rfl rfl rfl rfl ?_
          refine ol_guard_no rfl rfl rfl rfl ?_
          refine ol_guard_no rfl rfl rfl rfl ?_
          refine ol_guard_no rfl rfl rfl rfl ?_
          refine ol_guard_no rfl rfl rfl rfl ?_
          -- r11.13 t47 := pick  t41 t46 Cfalse
          refine ol_pure rfl (op_pick_f rfl rfl) ?_
          -- r11.14 t6 := assign  t47
          refine ol_pure rfl (op_assign rfl) ?_
          refine ol_nil ?_
          refine pq_in_normal ?_
          refine pq_then ?_
          refine cw_region ?_
          -- r9.0 t29 := move  t7
          refine ol_pure rfl (op_move rfl) ?_
          -- r9.1 t30 := add t29 C1
          refine ol_pure rfl (op_add rfl rfl (by omega) (by omega)) ?_
          -- r9.2 t7 := assign  t30
          refine ol_pure rfl (op_assign rfl) ?_
          refine ol_nil ?_
          -- end of round 1 h13f h28t h35t h41f
          exact absurd hlt (by omega)
      · skip
        try simp only [decide_eq_true_eq, decide_eq_false_iff_not, Bool.not_eq_true', Bool.not_eq_false', Bool.not_eq_eq_eq_not, Bool.not_true, Bool.not_false] at h35
        refine ol_guard_no rfl rfl rfl rfl ?_
        refine ol_guard_no rfl rfl rfl rfl ?_
        refine ol_guard_no rfl rfl rfl rfl ?_
        refine ol_guard_no rfl rfl rfl rfl ?_
        -- r11.6 t40 := pick  t35 t39 Cfalse
        refine ol_pure rfl (op_pick_f rfl rfl) ?_
        -- r11.7 t41 := move  t40
        refine ol_pure rfl (op_move rfl) ?_
        refine ol_guard_no rfl rfl rfl rfl ?_
        refine ol_guard_no rfl rfl rfl rfl ?_
        refine ol_guard_no rfl rfl rfl rfl ?_
        refine ol_guard_no rfl rfl rfl rfl ?_
        refine ol_guard_no rfl rfl rfl rfl ?_
        -- r11.13 t47 := pick  t41 t46 Cfalse
        refine ol_pure rfl (op_pick_f rfl rfl) ?_
        -- r11.14 t6 := assign  t47
        refine ol_pure rfl (op_assign rfl) ?_
        refine ol_nil ?_
        refine pq_in_normal ?_
        refine pq_then ?_
        refine cw_region ?_
        -- r9.0 t29 := move  t7
        refine ol_pure rfl (op_move rfl) ?_
        -- r9.1 t30 := add t29 C1
        refine ol_pure rfl (op_add rfl rfl (by omega) (by omega)) ?_
        -- r9.2 t7 := assign  t30
        refine ol_pure rfl (op_assign rfl) ?_
        refine ol_nil ?_
        -- end of round 1 h13f h28t h35f
        refine pq_loop _ _ (by exact ⟨k + 1, o4n, c_o4n, false, rfl, by omega, rfl, by rw [hat, ← hal, h35, Bool.false_and], by rw [List.replicate_succ']; simpa using hS⟩) ((Sub.cons rfl (Sub.cons rfl (Sub.cons rfl (Sub.cons rfl (Sub.cons rfl (Sub.cons rfl Sub.nil))))))) (by omega)
    · skip
      try simp only [decide_eq_true_eq, decide_eq_false_iff_not, Bool.not_eq_true', Bool.not_eq_false', Bool.not_eq_eq_eq_not, Bool.not_true, Bool.not_false] at h28
      have hk0 : k = atoms.length := by omega
      subst hk0
      rw [List.take_of_length_le (by rw [modelI_len]; exact Nat.le_refl _), all_open (modelI_len _ _)] at hal
      obtain ⟨G4, hl4, hS2, hM4⟩ := SS.give' (startI atoms.length) [] EInt.mono hS (by decide) (Rows.of_map (fun y hy => ⟨rfl, by have := startI_mem y hy; omega⟩)) (by simp [startI])
      clear hS
      have hS := hS2
      clear hS2
      (try simp only [List.nil_append] at hS)
      refine cw_exit ?_
      refine pq_exit ?_
      refine pq_exit ?_
      refine pq_in_exit ?_
      refine pq_then ?_
      refine cw_seq ?_
      refine al_start' hS (hS.take 1) (by kernel_rfl) rfl (fun w hS hT => ?_)
      -- r12.0 t49 := load [25] t1
      refine al_load (i := 0) rfl (by kernel_rfl) (by kernel_rfl) (by kernel_rfl) rfl (fun _ _ _ h => h) (by exact op_loadN agg_25 rfl (by rfl) (fun w hw k u hk => (hw.bcell (i := 0) rfl).trans hk)) rfl hT ?_
      -- r12.1 t50 := load [25] t1
      refine al_load (i := 1) rfl (by kernel_rfl) (by kernel_rfl) (by kernel_rfl) rfl (fun _ _ _ h => h) (by exact op_loadN agg_25 rfl (by rfl) (fun w hw k u hk => (hw.bcell (i := 0) rfl).trans hk)) rfl hT ?_
      -- r12.2 t51 := move  t4
      refine al_take (i := 2) rfl (by kernel_rfl) (by kernel_rfl) (by kernel_rfl) rfl (fun _ _ _ h => h) (op_move rfl) rfl ?_
      refine al_step (i := 3) rfl (by kernel_rfl) rfl (op_call_fr hS cf_15 rfl (L22_holds_c _ _ hS.hold _ _ atoms rs (h1.mono EAtom.mono (hl17.trans hl4)) (h2.mono ERule.mono (hl17.trans hl4)) hP _ (startI atoms.length) hM4 (by simp [startI]))) ?_
      clear hS
      rintro v52 w ⟨F52, G52, hR52, hF52, hf52, hl52, hS⟩
      obtain ⟨oH, cH, rfl, _, _⟩ := hR52.elim
      have hT := hT.back hS (by first | exact Le.refl _ | assumption) (fun x hx => by try simp only [List.take_succ_cons, List.take_zero, List.mem_cons, List.not_mem_nil, or_false] at hx; (rcases hx with rfl) <;> simp)
      refine ⟨fun _ _ => hT, ?_⟩
      -- r12.4 t53 := build [31] 1:t52
      refine al_take (i := 4) rfl (by kernel_rfl) (by kernel_rfl) (by kernel_rfl) rfl (fun _ _ _ h => h) (op_build (is := [1]) (xs := [.tmp 52]) (v := .agg #[.slice none 0 0, .slice oH (holdsI atoms.length rs (startI atoms.length)).length cH]) rfl rfl (fun w => by kernel_rfl)) rfl ?_
      refine al_step (i := 5) rfl (by kernel_rfl) rfl (op_call_fr hS cf_14 rfl (judge_Check_c _ _ hS.hold _ _ atoms rs (h1.mono EAtom.mono ((hl17.trans hl4).trans hl52)) (h2.mono ERule.mono ((hl17.trans hl4).trans hl52)) hP _ _ [] (holdsI atoms.length rs (startI atoms.length)) (RSl.nil _) (hR52.mono EInt.mono hf52))) ?_
      clear hS
      rintro v54 w ⟨F54, G54, hR54, hF54, hf54, hl54, hS⟩
      obtain ⟨vm54, hv, _⟩ := hR54
      subst hv
      have hl54b := hl52.trans hl54
      have hT := hT.back hS (by first | exact Le.refl _ | assumption) (fun x hx => by try simp only [List.take_succ_cons, List.take_zero, List.mem_cons, List.not_mem_nil, or_false] at hx; (rcases hx with rfl) <;> simp)
      refine ⟨fun _ _ => hT, ?_⟩
      -- r12.6 t48 := move  t54
      refine al_take (i := 6) rfl (by kernel_rfl) (by kernel_rfl) (by kernel_rfl) rfl (fun _ _ _ h => h) (op_move rfl) rfl ?_
      -- r12.7 t55 := extract [0] t48
      refine al_take (i := 7) rfl (by kernel_rfl) (by kernel_rfl) (by kernel_rfl) rfl (fun _ _ _ h => h) (op_extract (vs := [vm54, .bool (checkI rs atoms.length [] (holdsI atoms.length rs (startI atoms.length))).isSome]) rfl rfl) rfl ?_
      -- r12.8 t56 := extract [1] t48
      refine al_take (i := 8) rfl (by kernel_rfl) (by kernel_rfl) (by kernel_rfl) rfl (fun _ _ _ h => h) (op_extract (vs := [vm54, .bool (checkI rs atoms.length [] (holdsI atoms.length rs (startI atoms.length))).isSome]) rfl rfl) rfl ?_
      -- r12.9 t8 := assign  t55
      refine al_take (i := 9) rfl (by kernel_rfl) (by kernel_rfl) (by kernel_rfl) rfl (fun _ _ _ h => h) (op_assign rfl) rfl ?_
      -- r12.10 t9 := assign  t56
      refine al_take (i := 10) rfl (by kernel_rfl) (by kernel_rfl) (by kernel_rfl) rfl (fun _ _ _ h => h) (op_assign rfl) rfl ?_
      refine al_done (by kernel_rfl) ?_
      refine pq_then ?_
      refine cw_seq ?_
      refine cw_region ?_
      -- r13.0 t57 := move  t3
      refine ol_pure rfl (op_move rfl) ?_
      -- r13.1 t58 := move  t57
      refine ol_pure rfl (op_move rfl) ?_
      -- r13.2 t59 := move  t9 ?1=True
      refine ol_guard_pure rfl rfl rfl (op_move rfl) ?_
      -- r13.3 t60 := move  t6 ?1=True
      refine ol_guard_pure rfl rfl rfl (op_move rfl) ?_
      -- r13.4 t61 := eql t59 t60 ?1=True
      refine ol_guard_pure rfl rfl rfl (op_eqlB Try.underlying4 rfl rfl) ?_
      -- r13.5 t62 := pick  t58 t61 Cfalse
      refine ol_pure rfl (op_pick_t rfl rfl) ?_
      -- r13.6 t2 := assign  t62
      refine ol_pure rfl (op_assign rfl) ?_
      refine ol_nil ?_
      refine pq_then ?_
      refine cw_ret ?_
      refine ret1 rfl rfl ?_
      -- ret2 h13f h28f
      exact hS.sc_b (by rw [none_taken hP, hal]; simp)
end Go.Proofs.Ytbpmkidaoemebaa.K
