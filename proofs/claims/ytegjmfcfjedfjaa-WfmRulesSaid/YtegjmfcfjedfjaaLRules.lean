/-
  The walk of WfmRules.
  No condition but the premises that each theorem names.
-/
import Derived.Test.YtegjmfcfjedfjaaLUnf
import Derived.Test.YtegjmfcfjedfjaaPlr
namespace Go.Proofs.Ytegjmfcfjedfjaa.K
open Go Go.RowKit
set_option linter.unusedVariables false
set_option linter.unusedSimpArgs false

open Pl

set_option maxRecDepth 100000 in
set_option maxHeartbeats 400000 in

theorem L17_least_c (G : GH) (w0 : World) (hG : Holds G w0) (r : Rule) (p q vm : Value) (m : List Int) (h1 : RSl 1 EInt G p r.pos) (h2 : RSl 1 EInt G q r.neg) (h3 : RSl 1 EInt G vm m) (hn1 : ∀ x ∈ r.pos, 0 ≤ x ∧ x < m.length) (hn2 : ∀ x ∈ r.neg, 0 ≤ x ∧ x < m.length) (hm : ∀ x ∈ m, 0 ≤ x ∧ x ≤ 2) :
    Calls Try.prog 26 #[.agg #[.int .i64 r.head, p, q], vm] w0 (Sc w0 (.int .i64 (leastI r m))) := by
  obtain ⟨op, cp, rfl, hlp, hpm⟩ := h1.elim
  obtain ⟨oq, cq, rfl, hlq, hqm⟩ := h2.elim
  obtain ⟨oM, cM, rfl, hlM, hmM⟩ := h3.elim
  have hle1 := h1.le
  have hle2 := h2.le
  refine enter Try.func26 rfl (N := 44) rfl (Nat.le_of_ble_eq_true rfl) ?_
  have hS := SS.init hG
  refine cw_seq ?_
  refine cw_region ?_
  -- r0.0 t2 := box [42] t0
  refine ol_step rfl (op_box hS rfl rfl) ?_
  clear hS
  rintro _ w ⟨b2, rfl, hS⟩
  -- r0.1 t4 := assign  C0
  refine ol_pure rfl (op_assign rfl) ?_
  refine ol_nil ?_
  refine pq_then ?_
  refine cw_seq ?_
  refine cw_region ?_
  -- r1.0 t5 := assign  C2
  refine ol_pure rfl (op_assign rfl) ?_
  refine ol_nil ?_
  refine pq_then ?_
  refine cw_seq ?_
  refine cw_seq ?_
  refine cw_region ?_
  -- r2.0 t6 := assign  C0
  refine ol_pure rfl (op_assign rfl) ?_
  refine ol_nil ?_
  refine pq_then ?_
  refine cw_block ?_
  refine cw_loop (fun e w n => ∃ (o : Int) (k : Nat), e = [(1, .slice oM m.length cM), (2, .pointer (some ⟨b2, 0, none⟩)), (5, .int .i64 o), (6, .int .i64 (k : Nat))] ∧ k ≤ r.pos.length ∧ n = r.pos.length - k ∧ minPos m r.pos 2 = minPos m (r.pos.drop k) o ∧ SS G w0 G [.blk b2 42 [.int .i64 r.head, .slice op r.pos.length cp, .slice oq r.neg.length cq]] w) _ _ (by exact ⟨2, 0, rfl, Nat.zero_le _, rfl, rfl, hS⟩) ((Sub.cons rfl (Sub.cons rfl (Sub.cons rfl (Sub.cons rfl Sub.nil))))) ?_
  clear hS
  rintro e w n ⟨o, k, rfl, hk, rfl, hp, hS⟩
  refine cw_seq ?_
  refine cw_seq ?_
  refine cw_region ?_
  -- r3.0 t8 := move  t6
  refine ol_pure rfl (op_move rfl) ?_
  -- r3.1 t9 := fieldAddr [42, 1] t2
  refine ol_pure rfl (op_fieldAddr fld_42_1 rfl) ?_
  -- r3.2 t10 := load [27] t9
  refine ol_load rfl (op_load1 one_27 rfl (fun w hw => (hw.bcell (i := 0) rfl).trans rfl)) hS ?_
  -- r3.3 t11 := call len t10
  refine ol_pure rfl (op_len sl_27 rfl rfl) ?_
  -- r3.4 t12 := lss t8 t11
  refine ol_pure rfl (op_lss rfl rfl) ?_
  refine ol_nil ?_
  refine pq_then ?_
  refine cw_cond rfl (fun h12 => ?_) (fun h12 => ?_)
  · skip
    try simp only [decide_eq_true_eq, decide_eq_false_iff_not, Bool.not_eq_true', Bool.not_eq_false', Bool.not_eq_eq_eq_not, Bool.not_true, Bool.not_false] at h12
    have hlt : k < r.pos.length := by omega
    obtain ⟨hopos, hcpos, hbpos⟩ := h1.int hlt
    have hr := hn1 _ (List.getElem_mem hlt)
    obtain ⟨j, hj⟩ := Int.eq_ofNat_of_zero_le hr.1
    have hjm : j < m.length := by omega
    obtain ⟨hoM, hcM, _⟩ := h3.int hjm
    have hmj := hm _ (List.getElem_mem hjm)
    have hgd : m.getD r.pos[k].toNat 0 = m[j] := by rw [hj]; simp [hjm]
    rw [hj] at hcpos
    refine cw_skip ?_
    refine pq_then ?_
    refine cw_seq ?_
    refine cw_block ?_
    refine cw_region ?_
    -- r5.0 t15 := move  t5
    refine ol_pure rfl (op_move rfl) ?_
    -- r5.1 t16 := move  t1
    refine ol_pure rfl (op_move rfl) ?_
    -- r5.2 t17 := fieldAddr [42, 1] t2
    refine ol_pure rfl (op_fieldAddr fld_42_1 rfl) ?_
    -- r5.3 t18 := load [27] t17
    refine ol_load rfl (op_load1 one_27 rfl (fun w hw => (hw.bcell (i := 0) rfl).trans rfl)) hS ?_
    -- r5.4 t19 := move  t6
    refine ol_pure rfl (op_move rfl) ?_
    -- r5.5 t20 := indexAddr [27] t18 t19
    refine ol_pure rfl (op_indexN sl_27 rfl rfl (by omega) (by assumption)) ?_
    -- r5.6 t21 := load [3] t20
    refine ol_load rfl (op_load1 one_3 rfl (fun w hw => by first | exact hw.gcell (by assumption) | exact hw.gcell0 (by assumption))) hS ?_
    -- r5.7 t22 := indexAddr [27] t16 t21
    refine ol_pure rfl (op_indexN sl_27 rfl rfl (by omega) (by assumption)) ?_
    -- r5.8 t23 := load [3] t22
    refine ol_load rfl (op_load1 one_3 rfl (fun w hw => by first | exact hw.gcell (by assumption) | exact hw.gcell0 (by assumption))) hS ?_
    -- r5.9 t24 := call min t15 t23
    refine ol_pure rfl (op_val (op_min rfl rfl) (show Value.int .i64 (if m[j] < o then m[j] else o) = .int .i64 (min o m[j]) from congrArg _ (by split <;> omega))) ?_
    -- r5.10 t5 := assign  t24
    refine ol_pure rfl (op_assign rfl) ?_
    refine ol_nil ?_
    refine pq_in_normal ?_
    refine pq_then ?_
    refine cw_region ?_
    -- r4.0 t13 := move  t6
    refine ol_pure rfl (op_move rfl) ?_
    -- r4.1 t14 := add t13 C1
    refine ol_pure rfl (op_add rfl rfl (by omega) (by omega)) ?_
    -- r4.2 t6 := assign  t14
    refine ol_pure rfl (op_assign rfl) ?_
    refine ol_nil ?_
    -- end of round 1 h12t
    refine pq_loop _ _ (by exact ⟨_, k + 1, rfl, by omega, rfl, by rw [hp, List.drop_eq_getElem_cons hlt]; unfold minPos; rw [List.foldl_cons, hgd], hS⟩) ((Sub.cons rfl (Sub.cons rfl (Sub.cons rfl (Sub.cons rfl Sub.nil))))) (by omega)
  · skip
    try simp only [decide_eq_true_eq, decide_eq_false_iff_not, Bool.not_eq_true', Bool.not_eq_false', Bool.not_eq_eq_eq_not, Bool.not_true, Bool.not_false] at h12
    have hpos : minPos m r.pos 2 = o := by rw [hp, List.drop_eq_nil_of_le (by omega)]; rfl
    clear hp hk h12
    refine cw_exit ?_
    refine pq_exit ?_
    refine pq_exit ?_
    refine pq_in_exit ?_
    refine pq_then ?_
    refine cw_seq ?_
    refine cw_seq ?_
    refine cw_region ?_
    -- r6.0 t7 := assign  C0
    refine ol_pure rfl (op_assign rfl) ?_
    refine ol_nil ?_
    refine pq_then ?_
    refine cw_block ?_
    refine cw_loop (fun e w n => ∃ (o : Int) (k : Nat), e = [(1, .slice oM m.length cM), (2, .pointer (some ⟨b2, 0, none⟩)), (5, .int .i64 o), (7, .int .i64 (k : Nat))] ∧ k ≤ r.neg.length ∧ n = r.neg.length - k ∧ leastI r m = minNeg m (r.neg.drop k) o ∧ SS G w0 G [.blk b2 42 [.int .i64 r.head, .slice op r.pos.length cp, .slice oq r.neg.length cq]] w) _ _ (by exact ⟨o, 0, rfl, Nat.zero_le _, rfl, by rw [leastI, hpos]; rfl, hS⟩) ((Sub.cons rfl (Sub.cons rfl (Sub.cons rfl (Sub.cons rfl Sub.nil))))) ?_
    clear hS
    rintro e w n ⟨o, k, rfl, hk2, rfl, hp2, hS⟩
    refine cw_seq ?_
    refine cw_seq ?_
    refine cw_region ?_
    -- r7.0 t25 := move  t7
    refine ol_pure rfl (op_move rfl) ?_
    -- r7.1 t26 := fieldAddr [42, 2] t2
    refine ol_pure rfl (op_fieldAddr fld_42_2 rfl) ?_
    -- r7.2 t27 := load [27] t26
    refine ol_load rfl (op_load1 one_27 rfl (fun w hw => (hw.bcell (i := 0) rfl).trans rfl)) hS ?_
    -- r7.3 t28 := call len t27
    refine ol_pure rfl (op_len sl_27 rfl rfl) ?_
    -- r7.4 t29 := lss t25 t28
    refine ol_pure rfl (op_lss rfl rfl) ?_
    refine ol_nil ?_
    refine pq_then ?_
    refine cw_cond rfl (fun h29 => ?_) (fun h29 => ?_)
    · skip
      try simp only [decide_eq_true_eq, decide_eq_false_iff_not, Bool.not_eq_true', Bool.not_eq_false', Bool.not_eq_eq_eq_not, Bool.not_true, Bool.not_false] at h29
      have hlt : k < r.neg.length := by omega
      obtain ⟨honeg, hcneg, hbneg⟩ := h2.int hlt
      have hr := hn2 _ (List.getElem_mem hlt)
      obtain ⟨j, hj⟩ := Int.eq_ofNat_of_zero_le hr.1
      have hjm : j < m.length := by omega
      obtain ⟨hoM, hcM, _⟩ := h3.int hjm
      have hmj := hm _ (List.getElem_mem hjm)
      have hgd : m.getD r.neg[k].toNat 0 = m[j] := by rw [hj]; simp [hjm]
      rw [hj] at hcneg
      refine cw_skip ?_
      refine pq_then ?_
      refine cw_seq ?_
      refine cw_block ?_
      refine cw_region ?_
      -- r9.0 t32 := move  t5
      refine ol_pure rfl (op_move rfl) ?_
      -- r9.1 t33 := move  t1
      refine ol_pure rfl (op_move rfl) ?_
      -- r9.2 t34 := fieldAddr [42, 2] t2
      refine ol_pure rfl (op_fieldAddr fld_42_2 rfl) ?_
      -- r9.3 t35 := load [27] t34
      refine ol_load rfl (op_load1 one_27 rfl (fun w hw => (hw.bcell (i := 0) rfl).trans rfl)) hS ?_
      -- r9.4 t36 := move  t7
      refine ol_pure rfl (op_move rfl) ?_
      -- r9.5 t37 := indexAddr [27] t35 t36
      refine ol_pure rfl (op_indexN sl_27 rfl rfl (by omega) (by assumption)) ?_
      -- r9.6 t38 := load [3] t37
      refine ol_load rfl (op_load1 one_3 rfl (fun w hw => by first | exact hw.gcell (by assumption) | exact hw.gcell0 (by assumption))) hS ?_
      -- r9.7 t39 := indexAddr [27] t33 t38
      refine ol_pure rfl (op_indexN sl_27 rfl rfl (by omega) (by assumption)) ?_
      -- r9.8 t40 := load [3] t39
      refine ol_load rfl (op_load1 one_3 rfl (fun w hw => by first | exact hw.gcell (by assumption) | exact hw.gcell0 (by assumption))) hS ?_
      -- r9.9 t41 := sub C2 t40
      refine ol_pure rfl (op_sub rfl rfl (by omega) (by omega)) ?_
      -- r9.10 t42 := call min t32 t41
      refine ol_pure rfl (op_val (op_min rfl rfl) (show Value.int .i64 (if 2 - m[j] < o then 2 - m[j] else o) = .int .i64 (min o (2 - m[j])) from congrArg _ (by split <;> omega))) ?_
      -- r9.11 t5 := assign  t42
      refine ol_pure rfl (op_assign rfl) ?_
      refine ol_nil ?_
      refine pq_in_normal ?_
      refine pq_then ?_
      refine cw_region ?_
      -- r8.0 t30 := move  t7
      refine ol_pure rfl (op_move rfl) ?_
      -- r8.1 t31 := add t30 C1
      refine ol_pure rfl (op_add rfl rfl (by omega) (by omega)) ?_
      -- r8.2 t7 := assign  t31
      refine ol_pure rfl (op_assign rfl) ?_
      refine ol_nil ?_
      -- end of round 2 h12f h29t
      refine pq_loop _ _ (by exact ⟨_, k + 1, rfl, by omega, rfl, by rw [hp2, List.drop_eq_getElem_cons hlt]; unfold minNeg; rw [List.foldl_cons, hgd], hS⟩) ((Sub.cons rfl (Sub.cons rfl (Sub.cons rfl (Sub.cons rfl Sub.nil))))) (by omega)
    · skip
      try simp only [decide_eq_true_eq, decide_eq_false_iff_not, Bool.not_eq_true', Bool.not_eq_false', Bool.not_eq_eq_eq_not, Bool.not_true, Bool.not_false] at h29
      refine cw_exit ?_
      refine pq_exit ?_
      refine pq_exit ?_
      refine pq_in_exit ?_
      refine pq_then ?_
      refine cw_seq ?_
      refine cw_region ?_
      -- r10.0 t43 := move  t5
      refine ol_pure rfl (op_move rfl) ?_
      -- r10.1 t4 := assign  t43
      refine ol_pure rfl (op_assign rfl) ?_
      refine ol_nil ?_
      refine pq_then ?_
      refine cw_ret ?_
      refine ret1 rfl rfl ?_
      -- ret1 h12f h29f
      exact hS.sc_i (by rw [hp2, List.drop_eq_nil_of_le (by omega)]; rfl)
set_option maxRecDepth 100000 in
set_option maxHeartbeats 1000000 in

theorem L17_WfmRules_c (G : GH) (w0 : World) (hG : Holds G w0) (va vr : Value) (atoms : List (List Cell)) (rs : List Rule) (h1 : RSl 1 EAtom G va atoms) (h2 : RSl 3 ERule G vr rs)  :
    Calls Try.prog 9 #[.agg #[va, vr]] w0 (Sc w0 (.bool true)) := by
  obtain ⟨oA, cA, rfl, hlA, hmA⟩ := h1.elim
  obtain ⟨oR, cR, rfl, hlR, hmR⟩ := h2.elim
  refine enter Try.func9 rfl (N := 55) rfl (Nat.le_of_ble_eq_true rfl) ?_
  have hS := SS.init hG
  refine cw_seq ?_
  refine cw_region ?_
  -- r0.0 t1 := box [25] t0
  refine ol_step rfl (op_box hS rfl rfl) ?_
  clear hS
  rintro _ w ⟨b1, rfl, hS⟩
  -- r0.1 t2 := assign  Cfalse
  refine ol_pure rfl (op_assign rfl) ?_
  refine ol_nil ?_
  refine pq_then ?_
  refine cw_seq ?_
  refine cw_region ?_
  -- r1.0 t8 := call f12 
  refine ol_step rfl (op_call_sc hS cf_12 rfl (L17_head_c G _ hS.hold)) ?_
  clear hS
  rintro _ w ⟨rfl, hS⟩
  -- r1.1 t3 := assign  t8
  refine ol_pure rfl (op_assign rfl) ?_
  refine ol_nil ?_
  refine pq_then ?_
  refine cw_seq ?_
  refine cw_seq ?_
  refine cw_region ?_
  -- r2.0 t9 := load [25] t1
  refine ol_load rfl (op_loadN agg_25 rfl (by rfl) (fun w hw k u hk => (hw.bcell (i := 0) rfl).trans hk)) hS ?_
  -- r2.1 t10 := call f13 t9
  refine ol_step rfl (op_call_sc hS cf_13 rfl (L17_may_c G _ hS.hold _ _ atoms rs h1 h2)) ?_
  clear hS
  rintro _ w ⟨rfl, hS⟩
  -- r2.2 t11 := not t10
  refine ol_pure rfl (op_not rfl) ?_
  refine ol_nil ?_
  refine pq_then ?_
  refine cw_cond rfl (fun h11 => ?_) (fun h11 => ?_)
  · skip
    try simp only [decide_eq_true_eq, decide_eq_false_iff_not, Bool.not_eq_true', Bool.not_eq_false', Bool.not_eq_eq_eq_not, Bool.not_true, Bool.not_false] at h11
    refine cw_seq ?_
    refine cw_region ?_
    -- r3.0 t12 := move  t3
    refine ol_pure rfl (op_move rfl) ?_
    -- r3.1 t2 := assign  t12
    refine ol_pure rfl (op_assign rfl) ?_
    refine ol_nil ?_
    refine pq_then ?_
    refine cw_ret ?_
    refine pq_ret ?_
    refine ret1 rfl rfl ?_
    -- ret1 h11t
    exact hS.sc_b rfl
  · skip
    try simp only [decide_eq_true_eq, decide_eq_false_iff_not, Bool.not_eq_true', Bool.not_eq_false', Bool.not_eq_eq_eq_not, Bool.not_true, Bool.not_false] at h11
    have hmay : fewP atoms rs = true ∧ RightP atoms rs := by
      rw [Bool.and_eq_true, rightPB_iff] at h11
      exact h11
    have hP := PrOk.of_may hmay.1 hmay.2
    have hPn := hP.n_le
    have hPm := hP.m_le
    have hle := Le.refl G
    refine cw_skip ?_
    refine pq_then ?_
    refine cw_seq ?_
    refine cw_region ?_
    -- r4.0 t13 := load [25] t1
    refine ol_load rfl (op_loadN agg_25 rfl (by rfl) (fun w hw k u hk => (hw.bcell (i := 0) rfl).trans hk)) hS ?_
    -- r4.1 t14 := call f18 t13
    refine ol_step rfl (op_call_fr hS cf_18 rfl (wfm_Model_c _ _ hS.hold EAtom.mono _ _ atoms rs (h1.mono EAtom.mono hle) (h2.mono ERule.mono hle) hP)) ?_
    clear hS
    rintro v14 w ⟨F14, G14, hR14, hF14, hf14, hl14, hS⟩
    obtain ⟨oM, cM, rfl, _, _⟩ := hR14.elimN (modelI_len _ _)
    replace hR14 := hR14.mono EInt.mono hf14
    -- r4.2 t4 := assign  t14
    refine ol_pure rfl (op_assign rfl) ?_
    refine ol_nil ?_
    refine pq_then ?_
    refine cw_seq ?_
    refine cw_seq ?_
    refine cw_region ?_
    -- r5.0 t15 := move  t4
    refine ol_pure rfl (op_move rfl) ?_
    -- r5.1 t16 := call len t15
    refine ol_pure rfl (op_len sl_27 rfl rfl) ?_
    -- r5.2 t17 := fieldAddr [25, 0] t1
    refine ol_pure rfl (op_fieldAddr fld_25_0 rfl) ?_
    -- r5.3 t18 := load [22] t17
    refine ol_load rfl (op_load1 one_22 rfl (fun w hw => (hw.bcell (i := 0) rfl).trans rfl)) hS ?_
    -- r5.4 t19 := call len t18
    refine ol_pure rfl (op_len sl_22 rfl rfl) ?_
    -- r5.5 t20 := neq t16 t19
    refine ol_pure rfl (op_neqF rfl rfl rfl) ?_
    refine ol_nil ?_
    refine pq_then ?_
    refine cw_cond_f rfl ?_
    refine cw_skip ?_
    refine pq_then ?_
    refine cw_seq ?_
    refine cw_region ?_
    -- r7.0 t21 := move  t4
    refine ol_pure rfl (op_move rfl) ?_
    -- r7.1 t22 := call len t21
    refine ol_pure rfl (op_len sl_27 rfl rfl) ?_
    -- r7.2 t23 := makeSlice [27] t22 t22
    refine ol_step rfl (op_makeSlice (n := atoms.length) hS sl_27 el_3 rfl rfl rfl (by omega) (by unfold maxLen; omega)) ?_
    clear hS
    rintro _ w ⟨most, rfl, hS⟩
    -- r7.3 t5 := assign  t23
    refine ol_pure rfl (op_assign rfl) ?_
    refine ol_nil ?_
    refine pq_then ?_
    refine cw_seq ?_
    refine cw_seq ?_
    refine cw_region ?_
    -- r8.0 t6 := assign  C0
    refine ol_pure rfl (op_assign rfl) ?_
    refine ol_nil ?_
    refine pq_then ?_
    refine cw_block ?_
    refine cw_loop (fun e w n => ∃ k : Nat, e = [(1, .pointer (some ⟨b1, 0, none⟩)), (3, .bool true), (4, .slice oM atoms.length cM), (5, .slice most atoms.length atoms.length), (6, .int .i64 (k : Nat))] ∧ k ≤ rs.length ∧ n = rs.length - k ∧ SS G w0 G14 [.row most atoms.length atoms.length 3 1 ((mostI atoms.length (modelI atoms.length rs) (rs.take k)).map (Value.int .i64)), .blk b1 25 [.slice oA atoms.length cA, .slice oR rs.length cR]] w) _ _ (by exact ⟨0, rfl, Nat.zero_le _, rfl, by simpa [mostI] using hS⟩) ((Sub.cons rfl (Sub.cons rfl (Sub.cons rfl (Sub.cons rfl (Sub.cons rfl Sub.nil)))))) ?_
    clear hS
    rintro e w n ⟨k, rfl, hk, rfl, hS⟩
    refine cw_seq ?_
    refine cw_seq ?_
    refine cw_region ?_
    -- r9.0 t24 := move  t6
    refine ol_pure rfl (op_move rfl) ?_
    -- r9.1 t25 := fieldAddr [25, 1] t1
    refine ol_pure rfl (op_fieldAddr fld_25_1 rfl) ?_
    -- r9.2 t26 := load [23] t25
    refine ol_load rfl (op_load1 one_23 rfl (fun w hw => (hw.bcell (i := 1) rfl).trans rfl)) hS ?_
    -- r9.3 t27 := call len t26
    refine ol_pure rfl (op_len sl_23 rfl rfl) ?_
    -- r9.4 t28 := lss t24 t27
    refine ol_pure rfl (op_lss rfl rfl) ?_
    refine ol_nil ?_
    refine pq_then ?_
    refine cw_cond rfl (fun h28 => ?_) (fun h28 => ?_)
    · skip
      try simp only [decide_eq_true_eq, decide_eq_false_iff_not, Bool.not_eq_true', Bool.not_eq_false', Bool.not_eq_eq_eq_not, Bool.not_true, Bool.not_false] at h28
      have hlt : k < rs.length := by omega
      have hrk := (hP.rule _ (List.getElem_mem hlt)).1
      obtain ⟨hoa, cs, hcl, ⟨p, q, rfl, hp, hq, hhd⟩, hcells⟩ := h2.el hlt
      obtain ⟨op, cp, hpe, hlp, hmp⟩ := hp.elim
      obtain ⟨oq, cq, hqe, hlq, hmq⟩ := hq.elim
      subst hpe
      subst hqe
      obtain ⟨hd, hhe⟩ := Int.eq_ofNat_of_zero_le hrk.1.1
      have hdl : hd < atoms.length := by have := hrk.1.2; omega
      have hpos : ∀ x ∈ rs[k].pos, 0 ≤ x ∧ x < (modelI atoms.length rs).length := fun x hx => by rw [modelI_len]; exact hrk.2.1 x hx
      have hneg : ∀ x ∈ rs[k].neg, 0 ≤ x ∧ x < (modelI atoms.length rs).length := fun x hx => by rw [modelI_len]; exact hrk.2.2 x hx
      simp only [hhe] at hcells
      refine cw_skip ?_
      refine pq_then ?_
      refine cw_seq ?_
      refine cw_block ?_
      refine cw_seq ?_
      refine cw_region ?_
      -- r11.0 t31 := fieldAddr [25, 1] t1
      refine ol_pure rfl (op_fieldAddr fld_25_1 rfl) ?_
      -- r11.1 t32 := load [23] t31
      refine ol_load rfl (op_load1 one_23 rfl (fun w hw => (hw.bcell (i := 1) rfl).trans rfl)) hS ?_
      -- r11.2 t33 := move  t6
      refine ol_pure rfl (op_move rfl) ?_
      -- r11.3 t34 := indexAddr [23] t32 t33
      refine ol_pure rfl (op_indexN sl_23 rfl rfl (by omega) (by assumption)) ?_
      -- r11.4 t35 := load [42] t34
      refine ol_load rfl (op_loadN agg_42 rfl (by rfl) (fun w hw k u hk => hw.gcell0 (hcells k u hk))) hS ?_
      -- r11.5 t7 := alloc [42] 
      refine ol_step rfl (op_alloc hS el_42 rfl) ?_
      clear hS
      rintro _ w ⟨b7, rfl, hS⟩
      -- r11.6 _ := store [42] t7 t35
      refine ol_step0  (op_storeN (j := 0) hS sz_42 rfl rfl rfl rfl rfl (by simp [Value.oneCell'])) ?_
      clear hS
      rintro _ w hS; (try simp only [List.nil_append, List.cons_append, List.set] at hS)
      refine ol_nil ?_
      refine pq_then ?_
      have hml := mostI_len (n := atoms.length) (modelI atoms.length rs) (rs.take k)
      have hrc : ((mostI atoms.length (modelI atoms.length rs) (rs.take k)).map (Value.int .i64))[hd * 1]? = some (.int .i64 ((mostI atoms.length (modelI atoms.length rs) (rs.take k)).getD hd 0)) := by
        have hx : hd < (mostI atoms.length (modelI atoms.length rs) (rs.take k)).length := by omega
        simp [hx]
      have hoo := (hS.news (j := 1) rfl _ _ hrc).1
      refine al_start' hS (hS.take 2) (by kernel_rfl) rfl (fun w hS hT => ?_)
      -- r12.0 t36 := move  t5
      refine al_take (i := 0) rfl (by kernel_rfl) (by kernel_rfl) (by kernel_rfl) rfl (fun _ _ _ h => h) (op_move rfl) rfl ?_
      -- r12.1 t37 := fieldAddr [42, 0] t7
      refine al_take (i := 1) rfl (by kernel_rfl) (by kernel_rfl) (by kernel_rfl) rfl (fun _ _ _ h => h) (op_fieldAddr fld_42_0 rfl) rfl ?_
      -- r12.2 t38 := load [3] t37
      refine al_load (i := 2) rfl (by kernel_rfl) (by kernel_rfl) (by kernel_rfl) rfl (fun _ _ _ h => h) (by exact op_load1 one_3 rfl (fun w hw => (hw.bcell (i := 0) rfl).trans rfl)) rfl hT ?_
      -- r12.3 t39 := move  t5
      refine al_take (i := 3) rfl (by kernel_rfl) (by kernel_rfl) (by kernel_rfl) rfl (fun _ _ _ h => h) (op_move rfl) rfl ?_
      -- r12.4 t40 := fieldAddr [42, 0] t7
      refine al_take (i := 4) rfl (by kernel_rfl) (by kernel_rfl) (by kernel_rfl) rfl (fun _ _ _ h => h) (op_fieldAddr fld_42_0 rfl) rfl ?_
      -- r12.5 t41 := load [3] t40
      refine al_load (i := 5) rfl (by kernel_rfl) (by kernel_rfl) (by kernel_rfl) rfl (fun _ _ _ h => h) (by exact op_load1 one_3 rfl (fun w hw => (hw.bcell (i := 0) rfl).trans rfl)) rfl hT ?_
      -- r12.6 t42 := indexAddr [27] t39 t41
      refine al_take (i := 6) rfl (by kernel_rfl) (by kernel_rfl) (by kernel_rfl) rfl (fun _ _ _ h => h) (op_indexN sl_27 rfl rfl (by omega) (by assumption)) rfl ?_
      -- r12.7 t43 := load [3] t42
      refine al_load (i := 7) rfl (by kernel_rfl) (by kernel_rfl) (by kernel_rfl) rfl (fun _ _ _ h => h) (by exact op_load1 one_3 rfl (fun w hw => hw.rcell (i := 1) rfl hrc)) rfl hT ?_
      -- r12.8 t44 := load [42] t7
      refine al_load (i := 8) rfl (by kernel_rfl) (by kernel_rfl) (by kernel_rfl) rfl (fun _ _ _ h => h) (by exact op_loadN agg_42 rfl (by rfl) (fun w hw k u hk => (hw.bcell (i := 0) rfl).trans hk)) rfl hT ?_
      -- r12.9 t45 := move  t4
      refine al_take (i := 9) rfl (by kernel_rfl) (by kernel_rfl) (by kernel_rfl) rfl (fun _ _ _ h => h) (op_move rfl) rfl ?_
      refine al_step (i := 10) rfl (by kernel_rfl) rfl (op_call_sc hS cf_26 rfl (hhe ▸ L17_least_c _ _ hS.hold rs[k] _ _ _ (modelI atoms.length rs) (hp.mono EInt.mono hl14) (hq.mono EInt.mono hl14) hR14 hpos hneg (fun x hx => modelI_range hx))) ?_
      clear hS
      rintro _ w ⟨rfl, hS⟩
      have hT := hT.back hS (by first | exact Le.refl _ | assumption) (fun x hx => by try simp only [List.take_succ_cons, List.take_zero, List.mem_cons, List.not_mem_nil, or_false] at hx; (rcases hx with rfl | rfl) <;> simp)
      refine ⟨fun _ _ => hT, ?_⟩
      -- r12.11 t47 := call max t43 t46
      refine al_take (i := 11) rfl (by kernel_rfl) (by kernel_rfl) (by kernel_rfl) rfl (fun _ _ _ h => h) (op_val (op_max rfl rfl) (show Value.int .i64 (if leastI rs[k] (modelI atoms.length rs) > (mostI atoms.length (modelI atoms.length rs) (rs.take k)).getD hd 0 then leastI rs[k] (modelI atoms.length rs) else (mostI atoms.length (modelI atoms.length rs) (rs.take k)).getD hd 0) = .int .i64 (max ((mostI atoms.length (modelI atoms.length rs) (rs.take k)).getD hd 0) (leastI rs[k] (modelI atoms.length rs))) from congrArg _ (by split <;> omega))) rfl ?_
      -- r12.12 t48 := indexAddr [27] t36 t38
      refine al_take (i := 12) rfl (by kernel_rfl) (by kernel_rfl) (by kernel_rfl) rfl (fun _ _ _ h => h) (op_indexN sl_27 rfl rfl (by omega) (by assumption)) rfl ?_
      refine al_step0 (i := 13) rfl (by kernel_rfl) (op_storeR (j := 1) (k := hd * 1) hS sz_3 rfl rfl rfl rfl (by simp; omega)) ?_
      clear hS
      rintro _ w hS; (try simp only [List.nil_append, List.cons_append, List.set] at hS)
      refine ⟨no_need (by kernel_rfl), ?_⟩
      refine al_done (by kernel_rfl) ?_
      refine pq_in_normal ?_
      refine pq_then ?_
      refine cw_region ?_
      -- r10.0 t29 := move  t6
      refine ol_pure rfl (op_move rfl) ?_
      -- r10.1 t30 := add t29 C1
      refine ol_pure rfl (op_add rfl rfl (by omega) (by omega)) ?_
      -- r10.2 t6 := assign  t30
      refine ol_pure rfl (op_assign rfl) ?_
      refine ol_nil ?_
      -- end of round 1 h11f h28t
      refine pq_loop _ _ (by exact (by replace hS := SS.drop [] hS; have hm2 := mostI_take (n := atoms.length) (modelI atoms.length rs) hlt; rw [hhe, Int.toNat_natCast] at hm2; rw [Nat.mul_one, ← List.map_set, ← hm2] at hS; exact ⟨k + 1, rfl, by omega, rfl, hS⟩)) ((Sub.cons rfl (Sub.cons rfl (Sub.cons rfl (Sub.cons rfl (Sub.cons rfl Sub.nil)))))) (by omega)
    · skip
      try simp only [decide_eq_true_eq, decide_eq_false_iff_not, Bool.not_eq_true', Bool.not_eq_false', Bool.not_eq_eq_eq_not, Bool.not_true, Bool.not_false] at h28
      rw [List.take_of_length_le (by omega), most_model hP] at hS
      refine cw_exit ?_
      refine pq_exit ?_
      refine pq_exit ?_
      refine pq_in_exit ?_
      refine pq_then ?_
      refine cw_seq ?_
      refine cw_region ?_
      -- r13.0 t49 := move  t5
      refine ol_pure rfl (op_move rfl) ?_
      -- r13.1 t50 := move  t4
      refine ol_pure rfl (op_move rfl) ?_
      -- r13.2 t51 := call f17 t49 t50
      have hlend := SS.lend [] hS (by decide) EInt.mono (Rows.of_map (xs := (modelI atoms.length rs)) (f := Value.int .i64) (E := EInt) (fun y hy => ⟨rfl, by have := modelI_range hy; omega⟩)) (modelI_len _ _).symm
      refine ol_step rfl (op_call_sc hS cf_17 rfl (calls_t (by simp) (R17_Ints_c (fullG _) _ (Holds.full _) _ _ (modelI atoms.length rs) (modelI atoms.length rs) hlend (hR14.mono EInt.mono hS.hold.le_full)))) ?_
      clear hS
      rintro _ w ⟨rfl, hS⟩
      -- r13.3 t52 := move  t51
      refine ol_pure rfl (op_move rfl) ?_
      -- r13.4 t53 := move  t3 ?3=True
      refine ol_guard_pure rfl rfl rfl (op_move rfl) ?_
      -- r13.5 t54 := pick  t52 t53 Cfalse
      refine ol_pure rfl (op_pick_t rfl rfl) ?_
      -- r13.6 t2 := assign  t54
      refine ol_pure rfl (op_assign rfl) ?_
      refine ol_nil ?_
      refine pq_then ?_
      refine cw_ret ?_
      refine ret1 rfl rfl ?_
      -- ret3 h11f h28f
      exact hS.sc_b rfl
end Go.Proofs.Ytegjmfcfjedfjaa.K
