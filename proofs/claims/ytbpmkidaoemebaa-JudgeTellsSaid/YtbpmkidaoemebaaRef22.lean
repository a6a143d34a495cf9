/-
  The document for layer 22: which steps hold, what they tell, which rules hold up, what is taken.
  No condition but the premises that each theorem names.
-/
import Derived.Test.YtbpmkidaoemebaaLaw22b
import Derived.Test.YtbpmkidaoemebaaPll
namespace Go.Proofs.Ytbpmkidaoemebaa.K
open Go Go.RowKit
set_option linter.unusedVariables false
set_option linter.unusedSimpArgs false

open Pl

set_option maxRecDepth 100000 in

theorem R22_start_c (G : GH) (w0 : World) (hG : Holds G w0) {α : Type} {E : ER α} (va vr : Value) (atoms : List α) (h1 : RSl 1 E G va atoms) (hvr : ∃ oR nR cR, vr = .slice oR nR cR) (hn : atoms.length ≤ 1000) :
    Calls Try.prog 37 #[.agg #[va, vr]] w0 (Rt noG w0 (fun G v => RSl 1 EInt G v (startI atoms.length))) := by
  obtain ⟨oA, cA, rfl, hlA, hmA⟩ := h1.elim
  obtain ⟨oR, nR, cR, rfl⟩ := hvr
  refine enter Try.func37 rfl (N := 17) rfl (Nat.le_of_ble_eq_true rfl) ?_
  have hS := SS.init hG
  refine cw_seq ?_
  refine cw_region ?_
  -- r0.0 t1 := box [25] t0
  refine ol_step rfl (op_box hS rfl rfl) ?_
  clear hS
  rintro _ w ⟨b1, rfl, hS⟩
  -- r0.1 t2 := assign  C(slice (none Addr) 0 0)
  refine ol_pure rfl (op_assign rfl) ?_
  refine ol_nil ?_
  refine pq_then ?_
  refine cw_seq ?_
  refine cw_region ?_
  -- r1.0 t5 := buildSlice [29, 0] 
  refine ol_step rfl (op_buildSlice (el := 3) (is := []) (xs := []) (sz := 1) (cs := []) hS rfl rfl (fun w => by kernel_rfl) rfl (by decide)) ?_
  clear hS
  rintro _ w ⟨o3, rfl, hS⟩
  -- r1.1 t3 := assign  t5
  refine ol_pure rfl (op_assign rfl) ?_
  refine ol_nil ?_
  refine pq_then ?_
  refine cw_seq ?_
  refine cw_seq ?_
  refine cw_region ?_
  -- r2.0 t4 := assign  C0
  refine ol_pure rfl (op_assign rfl) ?_
  refine ol_nil ?_
  refine pq_then ?_
  refine cw_block ?_
  refine cw_loop (fun e w n => ∃ k o3 c3, e = [(1, .pointer (some ⟨b1, 0, none⟩)), (3, .slice o3 k c3), (4, .int .i64 (k : Nat))] ∧ k ≤ atoms.length ∧ n = atoms.length - k ∧ SS G w0 G [.row o3 k c3 3 1 ((List.replicate k (1 : Int)).map (Value.int .i64)), .blk b1 25 [.slice oA atoms.length cA, .slice oR nR cR]] w) _ _ (by exact ⟨0, o3, _, rfl, Nat.zero_le _, rfl, hS⟩) ((Sub.cons rfl (Sub.cons rfl (Sub.cons rfl Sub.nil)))) ?_
  clear hS
  rintro e w n ⟨k, o3, c3, rfl, hk, rfl, hS⟩
  refine cw_seq ?_
  refine cw_seq ?_
  refine cw_region ?_
  -- r3.0 t6 := move  t4
  refine ol_pure rfl (op_move rfl) ?_
  -- r3.1 t7 := fieldAddr [25, 0] t1
  refine ol_pure rfl (op_fieldAddr fld_25_0 rfl) ?_
  -- r3.2 t8 := load [22] t7
  refine ol_load rfl (op_load1 one_22 rfl (fun w hw => (hw.bcell (i := 1) rfl).trans rfl)) hS ?_
  -- r3.3 t9 := call len t8
  refine ol_pure rfl (op_len sl_22 rfl rfl) ?_
  -- r3.4 t10 := lss t6 t9
  refine ol_pure rfl (op_lss rfl rfl) ?_
  refine ol_nil ?_
  refine pq_then ?_
  refine cw_cond rfl (fun h10 => ?_) (fun h10 => ?_)
  · skip
    try simp only [decide_eq_true_eq, decide_eq_false_iff_not, Bool.not_eq_true', Bool.not_eq_false', Bool.not_eq_eq_eq_not, Bool.not_true, Bool.not_false] at h10
    have hlt : k < atoms.length := by omega
    refine cw_skip ?_
    refine pq_then ?_
    refine cw_seq ?_
    refine cw_block ?_
    refine cw_region ?_
    -- r5.0 t13 := move  t3
    refine ol_pure rfl (op_move rfl) ?_
    -- r5.1 t14 := buildSlice [29, 1] 0:C1
    refine ol_step rfl (op_buildSlice (el := 3) (is := [0]) (xs := [.const (.int .i64 (1))]) (sz := 1) (cs := [.int .i64 (1)]) hS rfl rfl (fun w => by kernel_rfl) rfl (by decide)) ?_
    clear hS
    rintro _ w ⟨s14, rfl, hS⟩
    -- r5.2 t15 := call append t13 t14
    refine ol_step rfl (op_append (j := 1) hS sl_29 el_3 rfl rfl rfl rfl rfl rfl (by decide) (hS.news (j := 0) rfl) (by simp [Value.oneCell']) (by omega) (by unfold maxLen; omega)) ?_
    clear hS
    rintro _ w ⟨o3n, c_o3n, rfl, hS⟩; (try simp only [List.nil_append, List.cons_append, List.set] at hS); replace hS := SS.drop [] hS; (try simp only [List.nil_append, List.cons_append] at hS)
    -- r5.3 t3 := assign  t15
    refine ol_pure rfl (op_assign rfl) ?_
    refine ol_nil ?_
    refine pq_in_normal ?_
    refine pq_then ?_
    refine cw_region ?_
    -- r4.0 t11 := move  t4
    refine ol_pure rfl (op_move rfl) ?_
    -- r4.1 t12 := add t11 C1
    refine ol_pure rfl (op_add rfl rfl (by omega) (by omega)) ?_
    -- r4.2 t4 := assign  t12
    refine ol_pure rfl (op_assign rfl) ?_
    refine ol_nil ?_
    -- end of round 1 h10t
    refine pq_loop _ _ (by exact ⟨k + 1, o3n, c_o3n, rfl, by omega, rfl, by rw [List.replicate_succ']; simpa using hS⟩) ((Sub.cons rfl (Sub.cons rfl (Sub.cons rfl Sub.nil)))) (by omega)
  · skip
    try simp only [decide_eq_true_eq, decide_eq_false_iff_not, Bool.not_eq_true', Bool.not_eq_false', Bool.not_eq_eq_eq_not, Bool.not_true, Bool.not_false] at h10
    refine cw_exit ?_
    refine pq_exit ?_
    refine pq_exit ?_
    refine pq_in_exit ?_
    refine pq_then ?_
    refine cw_seq ?_
    refine cw_region ?_
    -- r6.0 t16 := move  t3
    refine ol_pure rfl (op_move rfl) ?_
    -- r6.1 t2 := assign  t16
    refine ol_pure rfl (op_assign rfl) ?_
    refine ol_nil ?_
    refine pq_then ?_
    refine cw_ret ?_
    refine ret1 rfl rfl ?_
    -- ret1 h10f
    have hk0 : k = atoms.length := by omega
    subst hk0
    exact hS.rt_row [] (by decide) (Rows.ints fun x hx => by have := startI_mem x hx; omega) EInt.mono (by simp [startI])
set_option maxRecDepth 100000 in

theorem R22_are_c (G : GH) (w0 : World) (hG : Holds G w0) (vm : Value) (m : List Int) (h3 : RSl 1 EInt G vm m) (v : Value) (l : List Int) (tr : Int) (h4 : RSl 1 EInt G v l) (hl : ∀ x ∈ l, 0 ≤ x ∧ x < m.length) :
    Calls Try.prog 36 #[vm, v, .int .i64 tr] w0 (Sc w0 (.bool (areB m l tr))) := by
  obtain ⟨oM, cM, rfl, hlM, hmM⟩ := h3.elim
  obtain ⟨oL, cL, rfl, hlL, hmL⟩ := h4.elim
  have hLle := h4.le
  refine enter Try.func36 rfl (N := 23) rfl (Nat.le_of_ble_eq_true rfl) ?_
  have hS := SS.init hG
  refine cw_seq ?_
  refine cw_region ?_
  -- r0.0 t6 := assign  Cfalse
  refine ol_pure rfl (op_assign rfl) ?_
  refine ol_nil ?_
  refine pq_then ?_
  refine cw_seq ?_
  refine cw_seq ?_
  refine cw_region ?_
  -- r1.0 t7 := assign  C0
  refine ol_pure rfl (op_assign rfl) ?_
  refine ol_nil ?_
  refine pq_then ?_
  refine cw_block ?_
  refine cw_loop (fun e w n => ∃ k : Nat, e = [(0, .slice oM m.length cM), (1, .slice oL l.length cL), (2, .int .i64 tr), (7, .int .i64 (k : Nat))] ∧ k ≤ l.length ∧ n = l.length - k ∧ (l.take k).all (fun a => decide (valI m a = tr)) = true ∧ SS G w0 G [] w) _ _ (by exact ⟨0, rfl, Nat.zero_le _, rfl, rfl, hS⟩) ((Sub.cons rfl (Sub.cons rfl (Sub.cons rfl (Sub.cons rfl Sub.nil))))) ?_
  clear hS
  rintro e w n ⟨k, rfl, hk, rfl, hp, hS⟩
  refine cw_seq ?_
  refine cw_seq ?_
  refine cw_region ?_
  -- r2.0 t8 := move  t7
  refine ol_pure rfl (op_move rfl) ?_
  -- r2.1 t9 := move  t1
  refine ol_pure rfl (op_move rfl) ?_
  -- r2.2 t10 := call len t9
  refine ol_pure rfl (op_len sl_29 rfl rfl) ?_
  -- r2.3 t11 := lss t8 t10
  refine ol_pure rfl (op_lss rfl rfl) ?_
  refine ol_nil ?_
  refine pq_then ?_
  refine cw_cond rfl (fun h11 => ?_) (fun h11 => ?_)
  · skip
    try simp only [decide_eq_true_eq, decide_eq_false_iff_not, Bool.not_eq_true', Bool.not_eq_false', Bool.not_eq_eq_eq_not, Bool.not_true, Bool.not_false] at h11
    have hlk : k < l.length := by omega
    obtain ⟨hok, hck, hbk⟩ := h4.int hlk
    have hrk := hl _ (List.getElem_mem hlk)
    obtain ⟨xk, hxk⟩ := Int.eq_ofNat_of_zero_le hrk.1
    have hnk : xk < m.length := by omega
    rw [hxk] at hck
    obtain ⟨hoM, hcMk, _⟩ := h3.int hnk
    have hvk : valI m l[k] = m[xk] := by rw [hxk]; exact val_at hnk
    refine cw_skip ?_
    refine pq_then ?_
    refine cw_seq ?_
    refine cw_block ?_
    refine cw_seq ?_
    refine cw_region ?_
    -- r4.0 t14 := move  t0
    refine ol_pure rfl (op_move rfl) ?_
    -- r4.1 t15 := move  t1
    refine ol_pure rfl (op_move rfl) ?_
    -- r4.2 t16 := move  t7
    refine ol_pure rfl (op_move rfl) ?_
    -- r4.3 t17 := indexAddr [29] t15 t16
    refine ol_pure rfl (op_indexN sl_29 rfl rfl (by omega) (by assumption)) ?_
    -- r4.4 t18 := load [3] t17
    refine ol_load rfl (op_load1 one_3 rfl (fun w hw => hw.gcell hck)) hS ?_
    -- r4.5 t19 := indexAddr [29] t14 t18
    refine ol_pure rfl (op_indexN sl_29 rfl rfl (by omega) hoM) ?_
    -- r4.6 t20 := load [3] t19
    refine ol_load rfl (op_load1 one_3 rfl (fun w hw => hw.gcell hcMk)) hS ?_
    -- r4.7 t21 := move  t2
    refine ol_pure rfl (op_move rfl) ?_
    -- r4.8 t22 := neq t20 t21
    refine ol_pure rfl (op_neq rfl rfl) ?_
    refine ol_nil ?_
    refine pq_then ?_
    refine cw_cond rfl (fun h22 => ?_) (fun h22 => ?_)
    · skip
      try simp only [decide_eq_true_eq, decide_eq_false_iff_not, Bool.not_eq_true', Bool.not_eq_false', Bool.not_eq_eq_eq_not, Bool.not_true, Bool.not_false] at h22
      refine cw_seq ?_
      refine cw_region ?_
      -- r5.0 t6 := assign  Cfalse
      refine ol_pure rfl (op_assign rfl) ?_
      refine ol_nil ?_
      refine pq_then ?_
      refine cw_ret ?_
      refine pq_in_ret ?_
      refine pq_ret ?_
      refine pq_ret ?_
      refine pq_in_ret ?_
      refine pq_ret ?_
      refine ret1 rfl rfl ?_
      -- ret1 h11t h22t
      exact hS.sc_b (by unfold areB; rw [Pl.all_false_at (fun a => decide (valI m a = tr)) l k hlk (by rw [hvk]; simp_all)])
    · skip
      try simp only [decide_eq_true_eq, decide_eq_false_iff_not, Bool.not_eq_true', Bool.not_eq_false', Bool.not_eq_eq_eq_not, Bool.not_true, Bool.not_false] at h22
      refine cw_skip ?_
      refine pq_in_normal ?_
      refine pq_then ?_
      refine cw_region ?_
      -- r3.0 t12 := move  t7
      refine ol_pure rfl (op_move rfl) ?_
      -- r3.1 t13 := add t12 C1
      refine ol_pure rfl (op_add rfl rfl (by omega) (by omega)) ?_
      -- r3.2 t7 := assign  t13
      refine ol_pure rfl (op_assign rfl) ?_
      refine ol_nil ?_
      -- end of round 1 h11t h22f
      refine pq_loop _ _ (by exact ⟨k + 1, rfl, by omega, rfl, by rw [Pl.all_take_succ (fun a => decide (valI m a = tr)) _ _ hlk, hp, hvk]; simp_all, hS⟩) ((Sub.cons rfl (Sub.cons rfl (Sub.cons rfl (Sub.cons rfl Sub.nil))))) (by omega)
  · skip
    try simp only [decide_eq_true_eq, decide_eq_false_iff_not, Bool.not_eq_true', Bool.not_eq_false', Bool.not_eq_eq_eq_not, Bool.not_true, Bool.not_false] at h11
    refine cw_exit ?_
    refine pq_exit ?_
    refine pq_exit ?_
    refine pq_in_exit ?_
    refine pq_then ?_
    refine cw_seq ?_
    refine cw_region ?_
    -- r6.0 t6 := assign  Ctrue
    refine ol_pure rfl (op_assign rfl) ?_
    refine ol_nil ?_
    refine pq_then ?_
    refine cw_ret ?_
    refine ret1 rfl rfl ?_
    -- ret2 h11f
    exact hS.sc_b (by unfold areB; rw [Pl.all_of_take (fun a => decide (valI m a = tr)) l _ (by omega) hp])
set_option maxRecDepth 100000 in

theorem R22_has_c (G : GH) (w0 : World) (hG : Holds G w0) (vm : Value) (m : List Int) (h3 : RSl 1 EInt G vm m) (v : Value) (l : List Int) (tr : Int) (h4 : RSl 1 EInt G v l) (hl : ∀ x ∈ l, 0 ≤ x ∧ x < m.length) :
    Calls Try.prog 57 #[vm, v, .int .i64 tr] w0 (Sc w0 (.bool (hasB m l tr))) := by
  obtain ⟨oM, cM, rfl, hlM, hmM⟩ := h3.elim
  obtain ⟨oL, cL, rfl, hlL, hmL⟩ := h4.elim
  have hLle := h4.le
  refine enter Try.func57 rfl (N := 23) rfl (Nat.le_of_ble_eq_true rfl) ?_
  have hS := SS.init hG
  refine cw_seq ?_
  refine cw_region ?_
  -- r0.0 t6 := assign  Cfalse
  refine ol_pure rfl (op_assign rfl) ?_
  refine ol_nil ?_
  refine pq_then ?_
  refine cw_seq ?_
  refine cw_seq ?_
  refine cw_region ?_
  -- r1.0 t7 := assign  C0
  refine ol_pure rfl (op_assign rfl) ?_
  refine ol_nil ?_
  refine pq_then ?_
  refine cw_block ?_
  refine cw_loop (fun e w n => ∃ k : Nat, e = [(0, .slice oM m.length cM), (1, .slice oL l.length cL), (2, .int .i64 tr), (7, .int .i64 (k : Nat))] ∧ k ≤ l.length ∧ n = l.length - k ∧ (l.take k).any (fun a => decide (valI m a = tr)) = false ∧ SS G w0 G [] w) _ _ (by exact ⟨0, rfl, Nat.zero_le _, rfl, rfl, hS⟩) ((Sub.cons rfl (Sub.cons rfl (Sub.cons rfl (Sub.cons rfl Sub.nil))))) ?_
  clear hS
  rintro e w n ⟨k, rfl, hk, rfl, hp, hS⟩
  refine cw_seq ?_
  refine cw_seq ?_
  refine cw_region ?_
  -- r2.0 t8 := move  t7
  refine ol_pure rfl (op_move rfl) ?_
  -- r2.1 t9 := move  t1
  refine ol_pure rfl (op_move rfl) ?_
  -- r2.2 t10 := call len t9
  refine ol_pure rfl (op_len sl_29 rfl rfl) ?_
  -- r2.3 t11 := lss t8 t10
  refine ol_pure rfl (op_lss rfl rfl) ?_
  refine ol_nil ?_
  refine pq_then ?_
  refine cw_cond rfl (fun h11 => ?_) (fun h11 => ?_)
  · skip
    try simp only [decide_eq_true_eq, decide_eq_false_iff_not, Bool.not_eq_true', Bool.not_eq_false', Bool.not_eq_eq_eq_not, Bool.not_true, Bool.not_false] at h11
    have hlk : k < l.length := by omega
    obtain ⟨hok, hck, hbk⟩ := h4.int hlk
    have hrk := hl _ (List.getElem_mem hlk)
    obtain ⟨xk, hxk⟩ := Int.eq_ofNat_of_zero_le hrk.1
    have hnk : xk < m.length := by omega
    rw [hxk] at hck
    obtain ⟨hoM, hcMk, _⟩ := h3.int hnk
    have hvk : valI m l[k] = m[xk] := by rw [hxk]; exact val_at hnk
    refine cw_skip ?_
    refine pq_then ?_
    refine cw_seq ?_
    refine cw_block ?_
    refine cw_seq ?_
    refine cw_region ?_
    -- r4.0 t14 := move  t0
    refine ol_pure rfl (op_move rfl) ?_
    -- r4.1 t15 := move  t1
    refine ol_pure rfl (op_move rfl) ?_
    -- r4.2 t16 := move  t7
    refine ol_pure rfl (op_move rfl) ?_
    -- r4.3 t17 := indexAddr [29] t15 t16
    refine ol_pure rfl (op_indexN sl_29 rfl rfl (by omega) (by assumption)) ?_
    -- r4.4 t18 := load [3] t17
    refine ol_load rfl (op_load1 one_3 rfl (fun w hw => hw.gcell hck)) hS ?_
    -- r4.5 t19 := indexAddr [29] t14 t18
    refine ol_pure rfl (op_indexN sl_29 rfl rfl (by omega) hoM) ?_
    -- r4.6 t20 := load [3] t19
    refine ol_load rfl (op_load1 one_3 rfl (fun w hw => hw.gcell hcMk)) hS ?_
    -- r4.7 t21 := move  t2
    refine ol_pure rfl (op_move rfl) ?_
    -- r4.8 t22 := eql t20 t21
    refine ol_pure rfl (op_eql rfl rfl) ?_
    refine ol_nil ?_
    refine pq_then ?_
    refine cw_cond rfl (fun h22 => ?_) (fun h22 => ?_)
    · skip
      try simp only [decide_eq_true_eq, decide_eq_false_iff_not, Bool.not_eq_true', Bool.not_eq_false', Bool.not_eq_eq_eq_not, Bool.not_true, Bool.not_false] at h22
      refine cw_seq ?_
      refine cw_region ?_
      -- r5.0 t6 := assign  Ctrue
      refine ol_pure rfl (op_assign rfl) ?_
      refine ol_nil ?_
      refine pq_then ?_
      refine cw_ret ?_
      refine pq_in_ret ?_
      refine pq_ret ?_
      refine pq_ret ?_
      refine pq_in_ret ?_
      refine pq_ret ?_
      refine ret1 rfl rfl ?_
      -- ret1 h11t h22t
      exact hS.sc_b (by unfold hasB; rw [Pl.any_true_at (fun a => decide (valI m a = tr)) l k hlk (by rw [hvk]; simp_all)])
    · skip
      try simp only [decide_eq_true_eq, decide_eq_false_iff_not, Bool.not_eq_true', Bool.not_eq_false', Bool.not_eq_eq_eq_not, Bool.not_true, Bool.not_false] at h22
      refine cw_skip ?_
      refine pq_in_normal ?_
      refine pq_then ?_
      refine cw_region ?_
      -- r3.0 t12 := move  t7
      refine ol_pure rfl (op_move rfl) ?_
      -- r3.1 t13 := add t12 C1
      refine ol_pure rfl (op_add rfl rfl (by omega) (by omega)) ?_
      -- r3.2 t7 := assign  t13
      refine ol_pure rfl (op_assign rfl) ?_
      refine ol_nil ?_
      -- end of round 1 h11t h22f
      refine pq_loop _ _ (by exact ⟨k + 1, rfl, by omega, rfl, by rw [Pl.any_take_succ (fun a => decide (valI m a = tr)) _ _ hlk, hp, hvk]; simp_all, hS⟩) ((Sub.cons rfl (Sub.cons rfl (Sub.cons rfl (Sub.cons rfl Sub.nil))))) (by omega)
  · skip
    try simp only [decide_eq_true_eq, decide_eq_false_iff_not, Bool.not_eq_true', Bool.not_eq_false', Bool.not_eq_eq_eq_not, Bool.not_true, Bool.not_false] at h11
    refine cw_exit ?_
    refine pq_exit ?_
    refine pq_exit ?_
    refine pq_in_exit ?_
    refine pq_then ?_
    refine cw_seq ?_
    refine cw_region ?_
    -- r6.0 t6 := assign  Cfalse
    refine ol_pure rfl (op_assign rfl) ?_
    refine ol_nil ?_
    refine pq_then ?_
    refine cw_ret ?_
    refine ret1 rfl rfl ?_
    -- ret2 h11f
    exact hS.sc_b (by unfold hasB; rw [Pl.any_of_take (fun a => decide (valI m a = tr)) l _ (by omega) hp])
set_option maxRecDepth 100000 in

theorem R22_meet_c (G : GH) (w0 : World) (hG : Holds G w0) (v u : Value) (a b : List Int) (h1 : RSl 1 EInt G v a) (h2 : RSl 1 EInt G u b) :
    Calls Try.prog 59 #[v, u] w0 (Sc w0 (.bool (meetB a b))) := by
  obtain ⟨oa, c, rfl, hlc, hcm⟩ := h1.elim
  have hle := h1.le
  refine enter Try.func59 rfl (N := 18) rfl (Nat.le_of_ble_eq_true rfl) ?_
  have hS := SS.init hG
  refine cw_seq ?_
  refine cw_region ?_
  -- r0.0 t4 := assign  Cfalse
  refine ol_pure rfl (op_assign rfl) ?_
  refine ol_nil ?_
  refine pq_then ?_
  refine cw_seq ?_
  refine cw_seq ?_
  refine cw_region ?_
  -- r1.0 t5 := assign  C0
  refine ol_pure rfl (op_assign rfl) ?_
  refine ol_nil ?_
  refine pq_then ?_
  refine cw_block ?_
  refine cw_loop (fun e w n => ∃ k : Nat, e = [(0, .slice oa a.length c), (1, u), (5, .int .i64 (k : Nat))] ∧ k ≤ a.length ∧ n = a.length - k ∧ (a.take k).any (fun x => decide (x ∈ b)) = false ∧ SS G w0 G [] w) _ _ (by exact ⟨0, rfl, Nat.zero_le _, rfl, rfl, hS⟩) ((Sub.cons rfl (Sub.cons rfl (Sub.cons rfl Sub.nil)))) ?_
  clear hS
  rintro e w n ⟨k, rfl, hk, rfl, hp, hS⟩
  refine cw_seq ?_
  refine cw_seq ?_
  refine cw_region ?_
  -- r2.0 t6 := move  t5
  refine ol_pure rfl (op_move rfl) ?_
  -- r2.1 t7 := move  t0
  refine ol_pure rfl (op_move rfl) ?_
  -- r2.2 t8 := call len t7
  refine ol_pure rfl (op_len sl_29 rfl rfl) ?_
  -- r2.3 t9 := lss t6 t8
  refine ol_pure rfl (op_lss rfl rfl) ?_
  refine ol_nil ?_
  refine pq_then ?_
  refine cw_cond rfl (fun h9 => ?_) (fun h9 => ?_)
  · skip
    try simp only [decide_eq_true_eq, decide_eq_false_iff_not, Bool.not_eq_true', Bool.not_eq_false', Bool.not_eq_eq_eq_not, Bool.not_true, Bool.not_false] at h9
    have hlt : k < a.length := by omega
    obtain ⟨hoa, hca, hb⟩ := h1.int hlt
    refine cw_skip ?_
    refine pq_then ?_
    refine cw_seq ?_
    refine cw_block ?_
    refine cw_seq ?_
    refine cw_region ?_
    -- r4.0 t12 := move  t1
    refine ol_pure rfl (op_move rfl) ?_
    -- r4.1 t13 := move  t0
    refine ol_pure rfl (op_move rfl) ?_
    -- r4.2 t14 := move  t5
    refine ol_pure rfl (op_move rfl) ?_
    -- r4.3 t15 := indexAddr [29] t13 t14
    refine ol_pure rfl (op_indexN sl_29 rfl rfl (by omega) (by assumption)) ?_
    -- r4.4 t16 := load [3] t15
    refine ol_load rfl (op_load1 one_3 rfl (fun w hw => by first | exact hw.gcell (by assumption) | exact hw.gcell0 (by assumption))) hS ?_
    -- r4.5 t17 := call f55 t12 t16
    refine ol_step rfl (op_call_sc hS cf_55 rfl (R01_In_c G _ hS.hold _ b a[k] h2)) ?_
    clear hS
    rintro _ w ⟨rfl, hS⟩
    refine ol_nil ?_
    refine pq_then ?_
    refine cw_cond rfl (fun h17 => ?_) (fun h17 => ?_)
    · skip
      try simp only [decide_eq_true_eq, decide_eq_false_iff_not, Bool.not_eq_true', Bool.not_eq_false', Bool.not_eq_eq_eq_not, Bool.not_true, Bool.not_false] at h17
      refine cw_seq ?_
      refine cw_region ?_
      -- r5.0 t4 := assign  Ctrue
      refine ol_pure rfl (op_assign rfl) ?_
      refine ol_nil ?_
      refine pq_then ?_
      refine cw_ret ?_
      refine pq_in_ret ?_
      refine pq_ret ?_
      refine pq_ret ?_
      refine pq_in_ret ?_
      refine pq_ret ?_
      refine ret1 rfl rfl ?_
      -- ret1 h9t h17t
      exact hS.sc_b (by unfold meetB; rw [Pl.any_true_at (fun x => decide (x ∈ b)) a k hlt (by simp_all)])
    · skip
      try simp only [decide_eq_true_eq, decide_eq_false_iff_not, Bool.not_eq_true', Bool.not_eq_false', Bool.not_eq_eq_eq_not, Bool.not_true, Bool.not_false] at h17
      refine cw_skip ?_
      refine pq_in_normal ?_
      refine pq_then ?_
      refine cw_region ?_
      -- r3.0 t10 := move  t5
      refine ol_pure rfl (op_move rfl) ?_
      -- r3.1 t11 := add t10 C1
      refine ol_pure rfl (op_add rfl rfl (by omega) (by omega)) ?_
      -- r3.2 t5 := assign  t11
      refine ol_pure rfl (op_assign rfl) ?_
      refine ol_nil ?_
      -- end of round 1 h9t h17f
      refine pq_loop _ _ (by exact ⟨k + 1, rfl, by omega, rfl, by rw [Pl.any_take_succ (fun x => decide (x ∈ b)) _ _ hlt, hp]; simp_all, hS⟩) ((Sub.cons rfl (Sub.cons rfl (Sub.cons rfl Sub.nil)))) (by omega)
  · skip
    try simp only [decide_eq_true_eq, decide_eq_false_iff_not, Bool.not_eq_true', Bool.not_eq_false', Bool.not_eq_eq_eq_not, Bool.not_true, Bool.not_false] at h9
    refine cw_exit ?_
    refine pq_exit ?_
    refine pq_exit ?_
    refine pq_in_exit ?_
    refine pq_then ?_
    refine cw_seq ?_
    refine cw_region ?_
    -- r6.0 t4 := assign  Cfalse
    refine ol_pure rfl (op_assign rfl) ?_
    refine ol_nil ?_
    refine pq_then ?_
    refine cw_ret ?_
    refine ret1 rfl rfl ?_
    -- ret2 h9f
    exact hS.sc_b (by unfold meetB; rw [Pl.any_of_take (fun x => decide (x ∈ b)) a _ (by omega) hp])
set_option maxRecDepth 100000 in
set_option maxHeartbeats 400000 in

theorem R22_set_c (G : GH) (w0 : World) (hG : Holds G w0) (vm : Value) (m : List Int) (h3 : RSl 1 EInt G vm m) (v : Value) (l : List Int) (h1 : RSl 1 EInt G v l) :
    Calls Try.prog 58 #[vm, v] w0 (Sc w0 (.bool (setOpen m l))) := by
  obtain ⟨oM, cM, rfl, hlM, hmM⟩ := h3.elim
  obtain ⟨oa, c, rfl, hlc, hcm⟩ := h1.elim
  have hle := h1.le
  have hMle := h3.le
  refine enter Try.func58 rfl (N := 53) rfl (Nat.le_of_ble_eq_true rfl) ?_
  have hS := SS.init hG
  refine cw_seq ?_
  refine cw_region ?_
  -- r0.0 t4 := assign  Cfalse
  refine ol_pure rfl (op_assign rfl) ?_
  refine ol_nil ?_
  refine pq_then ?_
  refine cw_seq ?_
  refine cw_seq ?_
  refine cw_region ?_
  -- r1.0 t5 := assign  C0
  refine ol_pure rfl (op_assign rfl) ?_
  refine ol_nil ?_
  refine pq_then ?_
  refine cw_block ?_
  refine cw_loop (fun e w n => ∃ k : Nat, e = [(0, .slice oM m.length cM), (1, .slice oa l.length c), (5, .int .i64 (k : Nat))] ∧ k ≤ l.length ∧ n = l.length - k ∧ (l.take k).all (fun a => decide (0 ≤ a) && decide (a < (m.length : Int)) && decide (valI m a = 1)) = true ∧ (l.take k).Pairwise (· < ·) ∧ SS G w0 G [] w) _ _ (by exact ⟨0, rfl, Nat.zero_le _, rfl, rfl, by simp, hS⟩) ((Sub.cons rfl (Sub.cons rfl (Sub.cons rfl Sub.nil)))) ?_
  clear hS
  rintro e w n ⟨k, rfl, hk, rfl, hp, hq, hS⟩
  refine cw_seq ?_
  refine cw_seq ?_
  refine cw_region ?_
  -- r2.0 t6 := move  t5
  refine ol_pure rfl (op_move rfl) ?_
  -- r2.1 t7 := move  t1
  refine ol_pure rfl (op_move rfl) ?_
  -- r2.2 t8 := call len t7
  refine ol_pure rfl (op_len sl_29 rfl rfl) ?_
  -- r2.3 t9 := lss t6 t8
  refine ol_pure rfl (op_lss rfl rfl) ?_
  refine ol_nil ?_
  refine pq_then ?_
  refine cw_cond rfl (fun h9 => ?_) (fun h9 => ?_)
  · skip
    try simp only [decide_eq_true_eq, decide_eq_false_iff_not, Bool.not_eq_true', Bool.not_eq_false', Bool.not_eq_eq_eq_not, Bool.not_true, Bool.not_false] at h9
    have hlt : k < l.length := by omega
    obtain ⟨hoa, hcl, hb⟩ := h1.int hlt
    refine cw_skip ?_
    refine pq_then ?_
    refine cw_seq ?_
    refine cw_block ?_
    refine cw_seq ?_
    refine cw_seq ?_
    refine al_start' hS (hS.take 0) (by kernel_rfl) rfl (fun w hS hT => ?_)
    -- r4.0 t12 := move  t1
    refine al_take (i := 0) rfl (by kernel_rfl) (by kernel_rfl) (by kernel_rfl) rfl (fun _ _ _ h => h) (op_move rfl) rfl ?_
    -- r4.1 t13 := move  t5
    refine al_take (i := 1) rfl (by kernel_rfl) (by kernel_rfl) (by kernel_rfl) rfl (fun _ _ _ h => h) (op_move rfl) rfl ?_
    -- r4.2 t14 := indexAddr [29] t12 t13
    refine al_take (i := 2) rfl (by kernel_rfl) (by kernel_rfl) (by kernel_rfl) rfl (fun _ _ _ h => h) (op_indexN sl_29 rfl rfl (by omega) (by assumption)) rfl ?_
    -- r4.3 t15 := load [3] t14
    refine al_load (i := 3) rfl (by kernel_rfl) (by kernel_rfl) (by kernel_rfl) rfl (fun _ _ _ h => h) (by exact op_load1 one_3 rfl (fun w hw => hw.gcell hcl)) rfl hT ?_
    -- r4.4 t16 := lss t15 C0
    refine al_take (i := 4) rfl (by kernel_rfl) (by kernel_rfl) (by kernel_rfl) rfl (fun _ _ _ h => h) (op_lss rfl rfl) rfl ?_
    -- r4.5 t17 := move  t16
    refine al_take (i := 5) rfl (by kernel_rfl) (by kernel_rfl) (by kernel_rfl) rfl (fun _ _ _ h => h) (op_move rfl) rfl ?_
    refine al_split (fun h17 => ?_) (fun h17 => ?_)
    · skip
      try simp only [decide_eq_true_eq, decide_eq_false_iff_not, Bool.not_eq_true', Bool.not_eq_false', Bool.not_eq_eq_eq_not, Bool.not_true, Bool.not_false] at h17
      refine al_gskip (i := 6) rfl (by kernel_rfl) (by kernel_rfl) (by kernel_rfl) rfl rfl rfl rfl (fun _ _ _ h => h) (fun _ => hT) ?_
      refine al_gskip (i := 7) rfl (by kernel_rfl) (by kernel_rfl) (by kernel_rfl) rfl rfl rfl rfl (fun _ _ _ h => h) (fun _ => hT) ?_
      refine al_gskip (i := 8) rfl (by kernel_rfl) (by kernel_rfl) (by kernel_rfl) rfl rfl rfl rfl (fun _ _ _ h => h) (fun _ => hT) ?_
      refine al_gskip (i := 9) rfl (by kernel_rfl) (by kernel_rfl) (by kernel_rfl) rfl rfl rfl rfl (fun _ _ _ h => h) (fun _ => hT) ?_
      refine al_gskip (i := 10) rfl (by kernel_rfl) (by kernel_rfl) (by kernel_rfl) rfl rfl rfl rfl (fun _ _ _ h => h) (fun _ => hT) ?_
      refine al_gskip (i := 11) rfl (by kernel_rfl) (by kernel_rfl) (by kernel_rfl) rfl rfl rfl rfl (fun _ _ _ h => h) (fun _ => hT) ?_
      refine al_gskip (i := 12) rfl (by kernel_rfl) (by kernel_rfl) (by kernel_rfl) rfl rfl rfl rfl (fun _ _ _ h => h) (fun _ => hT) ?_
      -- r4.13 t25 := pick  t17 Ctrue t24
      refine al_take (i := 13) rfl (by kernel_rfl) (by kernel_rfl) (by kernel_rfl) rfl (fun _ _ _ h => h) (op_pick_t rfl rfl) rfl ?_
      -- r4.14 t26 := move  t25
      refine al_take (i := 14) rfl (by kernel_rfl) (by kernel_rfl) (by kernel_rfl) rfl (fun _ _ _ h => h) (op_move rfl) rfl ?_
      refine al_gskip (i := 15) rfl (by kernel_rfl) (by kernel_rfl) (by kernel_rfl) rfl rfl rfl rfl (fun _ _ _ h => h) (fun _ => hT) ?_
      refine al_gskip (i := 16) rfl (by kernel_rfl) (by kernel_rfl) (by kernel_rfl) rfl rfl rfl rfl (fun _ _ _ h => h) (fun _ => hT) ?_
      refine al_gskip (i := 17) rfl (by kernel_rfl) (by kernel_rfl) (by kernel_rfl) rfl rfl rfl rfl (fun _ _ _ h => h) (fun _ => hT) ?_
      refine al_gundef (i := 18) rfl (by kernel_rfl) (by kernel_rfl) (by kernel_rfl) rfl rfl rfl (fun _ _ _ h => h) (fun _ => hT) ?_
      refine al_gundef (i := 19) rfl (by kernel_rfl) (by kernel_rfl) (by kernel_rfl) rfl rfl rfl (fun _ _ _ h => h) (fun _ => hT) ?_
      refine al_gundef (i := 20) rfl (by kernel_rfl) (by kernel_rfl) (by kernel_rfl) rfl rfl rfl (fun _ _ _ h => h) (fun _ => hT) ?_
      refine al_gundef (i := 21) rfl (by kernel_rfl) (by kernel_rfl) (by kernel_rfl) rfl rfl rfl (fun _ _ _ h => h) (fun _ => hT) ?_
      refine al_gundef (i := 22) rfl (by kernel_rfl) (by kernel_rfl) (by kernel_rfl) rfl rfl rfl (fun _ _ _ h => h) (fun _ => hT) ?_
      refine al_gundef (i := 23) rfl (by kernel_rfl) (by kernel_rfl) (by kernel_rfl) rfl rfl rfl (fun _ _ _ h => h) (fun _ => hT) ?_
      refine al_gundef (i := 24) rfl (by kernel_rfl) (by kernel_rfl) (by kernel_rfl) rfl rfl rfl (fun _ _ _ h => h) (fun _ => hT) ?_
      refine al_gundef (i := 25) rfl (by kernel_rfl) (by kernel_rfl) (by kernel_rfl) rfl rfl rfl (fun _ _ _ h => h) (fun _ => hT) ?_
      refine al_gundef (i := 26) rfl (by kernel_rfl) (by kernel_rfl) (by kernel_rfl) rfl rfl rfl (fun _ _ _ h => h) (fun _ => hT) ?_
      refine al_gundef (i := 27) rfl (by kernel_rfl) (by kernel_rfl) (by kernel_rfl) rfl rfl rfl (fun _ _ _ h => h) (fun _ => hT) ?_
      refine al_gskip (i := 28) rfl (by kernel_rfl) (by kernel_rfl) (by kernel_rfl) rfl rfl rfl rfl (fun _ _ _ h => h) (fun _ => hT) ?_
      -- r4.29 t41 := pick  t26 Ctrue t40
      refine al_take (i := 29) rfl (by kernel_rfl) (by kernel_rfl) (by kernel_rfl) rfl (fun _ _ _ h => h) (op_pick_t rfl rfl) rfl ?_
      refine al_done (by kernel_rfl) ?_
      refine pq_then ?_
      refine cw_cond_t rfl ?_
      refine cw_seq ?_
      refine cw_region ?_
      -- r5.0 t4 := assign  Cfalse
      refine ol_pure rfl (op_assign rfl) ?_
      refine ol_nil ?_
      refine pq_then ?_
      refine cw_ret ?_
      refine pq_ret ?_
      refine pq_in_ret ?_
      refine pq_ret ?_
      refine pq_ret ?_
      refine pq_in_ret ?_
      refine pq_ret ?_
      refine ret1 rfl rfl ?_
      -- ret1 h9t h17t
      exact hS.sc_b (by rw [setOpen, Pl.all_false_at (fun a => decide (0 ≤ a) && decide (a < (m.length : Int)) && decide (valI m a = 1)) _ _ hlt (by simp; omega)]; rfl)
    · skip
      try simp only [decide_eq_true_eq, decide_eq_false_iff_not, Bool.not_eq_true', Bool.not_eq_false', Bool.not_eq_eq_eq_not, Bool.not_true, Bool.not_false] at h17
      -- r4.6 t18 := move  t1 ?5=False
      refine al_gtake (i := 6) rfl (by kernel_rfl) (by kernel_rfl) (by kernel_rfl) rfl rfl rfl (fun _ _ _ h => h) (op_move rfl) rfl ?_
      -- r4.7 t19 := move  t5 ?5=False
      refine al_gtake (i := 7) rfl (by kernel_rfl) (by kernel_rfl) (by kernel_rfl) rfl rfl rfl (fun _ _ _ h => h) (op_move rfl) rfl ?_
      -- r4.8 t20 := indexAddr [29] t18 t19 ?5=False
      refine al_gtake (i := 8) rfl (by kernel_rfl) (by kernel_rfl) (by kernel_rfl) rfl rfl rfl (fun _ _ _ h => h) (op_indexN sl_29 rfl rfl (by omega) (by assumption)) rfl ?_
      -- r4.9 t21 := load [3] t20 ?5=False
      refine al_gload (i := 9) rfl (by kernel_rfl) (by kernel_rfl) (by kernel_rfl) rfl rfl rfl (fun _ _ _ h => h) (by exact op_load1 one_3 rfl (fun w hw => hw.gcell hcl)) rfl hT ?_
      -- r4.10 t22 := move  t0 ?5=False
      refine al_gtake (i := 10) rfl (by kernel_rfl) (by kernel_rfl) (by kernel_rfl) rfl rfl rfl (fun _ _ _ h => h) (op_move rfl) rfl ?_
      -- r4.11 t23 := call len t22 ?5=False
      refine al_gtake (i := 11) rfl (by kernel_rfl) (by kernel_rfl) (by kernel_rfl) rfl rfl rfl (fun _ _ _ h => h) (op_len sl_29 rfl rfl) rfl ?_
      -- r4.12 t24 := geq t21 t23 ?5=False
      refine al_gtake (i := 12) rfl (by kernel_rfl) (by kernel_rfl) (by kernel_rfl) rfl rfl rfl (fun _ _ _ h => h) (op_geq rfl rfl) rfl ?_
      -- r4.13 t25 := pick  t17 Ctrue t24
      refine al_take (i := 13) rfl (by kernel_rfl) (by kernel_rfl) (by kernel_rfl) rfl (fun _ _ _ h => h) (op_pick_f rfl rfl) rfl ?_
      -- r4.14 t26 := move  t25
      refine al_take (i := 14) rfl (by kernel_rfl) (by kernel_rfl) (by kernel_rfl) rfl (fun _ _ _ h => h) (op_move rfl) rfl ?_
      refine al_split (fun h26 => ?_) (fun h26 => ?_)
      · skip
        try simp only [decide_eq_true_eq, decide_eq_false_iff_not, Bool.not_eq_true', Bool.not_eq_false', Bool.not_eq_eq_eq_not, Bool.not_true, Bool.not_false] at h26
        refine al_gskip (i := 15) rfl (by kernel_rfl) (by kernel_rfl) (by kernel_rfl) rfl rfl rfl rfl (fun _ _ _ h => h) (fun _ => hT) ?_
        refine al_gskip (i := 16) rfl (by kernel_rfl) (by kernel_rfl) (by kernel_rfl) rfl rfl rfl rfl (fun _ _ _ h => h) (fun _ => hT) ?_
        refine al_gskip (i := 17) rfl (by kernel_rfl) (by kernel_rfl) (by kernel_rfl) rfl rfl rfl rfl (fun _ _ _ h => h) (fun _ => hT) ?_
        refine al_gundef (i := 18) rfl (by kernel_rfl) (by kernel_rfl) (by kernel_rfl) rfl rfl rfl (fun _ _ _ h => h) (fun _ => hT) ?_
        refine al_gundef (i := 19) rfl (by kernel_rfl) (by kernel_rfl) (by kernel_rfl) rfl rfl rfl (fun _ _ _ h => h) (fun _ => hT) ?_
        refine al_gundef (i := 20) rfl (by kernel_rfl) (by kernel_rfl) (by kernel_rfl) rfl rfl rfl (fun _ _ _ h => h) (fun _ => hT) ?_
        refine al_gundef (i := 21) rfl (by kernel_rfl) (by kernel_rfl) (by kernel_rfl) rfl rfl rfl (fun _ _ _ h => h) (fun _ => hT) ?_
        refine al_gundef (i := 22) rfl (by kernel_rfl) (by kernel_rfl) (by kernel_rfl) rfl rfl rfl (fun _ _ _ h => h) (fun _ => hT) ?_
        refine al_gundef (i := 23) rfl (by kernel_rfl) (by kernel_rfl) (by kernel_rfl) rfl rfl rfl (fun _ _ _ h => h) (fun _ => hT) ?_
        refine al_gundef (i := 24) rfl (by kernel_rfl) (by kernel_rfl) (by kernel_rfl) rfl rfl rfl (fun _ _ _ h => h) (fun _ => hT) ?_
        refine al_gundef (i := 25) rfl (by kernel_rfl) (by kernel_rfl) (by kernel_rfl) rfl rfl rfl (fun _ _ _ h => h) (fun _ => hT) ?_
        refine al_gundef (i := 26) rfl (by kernel_rfl) (by kernel_rfl) (by kernel_rfl) rfl rfl rfl (fun _ _ _ h => h) (fun _ => hT) ?_
        refine al_gundef (i := 27) rfl (by kernel_rfl) (by kernel_rfl) (by kernel_rfl) rfl rfl rfl (fun _ _ _ h => h) (fun _ => hT) ?_
        refine al_gskip (i := 28) rfl (by kernel_rfl) (by kernel_rfl) (by kernel_rfl) rfl rfl rfl rfl (fun _ _ _ h => h) (fun _ => hT) ?_
        -- r4.29 t41 := pick  t26 Ctrue t40
        refine al_take (i := 29) rfl (by kernel_rfl) (by kernel_rfl) (by kernel_rfl) rfl (fun _ _ _ h => h) (op_pick_t rfl rfl) rfl ?_
        refine al_done (by kernel_rfl) ?_
        refine pq_then ?_
        refine cw_cond_t rfl ?_
        refine cw_seq ?_
        refine cw_region ?_
        -- r5.0 t4 := assign  Cfalse
        refine ol_pure rfl (op_assign rfl) ?_
        refine ol_nil ?_
        refine pq_then ?_
        refine cw_ret ?_
        refine pq_ret ?_
        refine pq_in_ret ?_
        refine pq_ret ?_
        refine pq_ret ?_
        refine pq_in_ret ?_
        refine pq_ret ?_
        refine ret1 rfl rfl ?_
        -- ret1 h9t h17f h26t
        exact hS.sc_b (by rw [setOpen, Pl.all_false_at (fun a => decide (0 ≤ a) && decide (a < (m.length : Int)) && decide (valI m a = 1)) _ _ hlt (by simp; omega)]; rfl)
      · skip
        try simp only [decide_eq_true_eq, decide_eq_false_iff_not, Bool.not_eq_true', Bool.not_eq_false', Bool.not_eq_eq_eq_not, Bool.not_true, Bool.not_false] at h26
        -- r4.15 t27 := move  t5 ?14=False
        refine al_gtake (i := 15) rfl (by kernel_rfl) (by kernel_rfl) (by kernel_rfl) rfl rfl rfl (fun _ _ _ h => h) (op_move rfl) rfl ?_
        -- r4.16 t28 := gtr t27 C0 ?14=False
        refine al_gtake (i := 16) rfl (by kernel_rfl) (by kernel_rfl) (by kernel_rfl) rfl rfl rfl (fun _ _ _ h => h) (op_gtr rfl rfl) rfl ?_
        -- r4.17 t29 := move  t28 ?14=False
        refine al_gtake (i := 17) rfl (by kernel_rfl) (by kernel_rfl) (by kernel_rfl) rfl rfl rfl (fun _ _ _ h => h) (op_move rfl) rfl ?_
        refine al_split (fun h29 => ?_) (fun h29 => ?_)
        · skip
          try simp only [decide_eq_true_eq, decide_eq_false_iff_not, Bool.not_eq_true', Bool.not_eq_false', Bool.not_eq_eq_eq_not, Bool.not_true, Bool.not_false] at h29
          have hk1 : k - 1 < l.length := by omega
          obtain ⟨_, hc2', _⟩ := h1.int hk1
          have hc2 : gcell G (elA oa (((k : Int) - 1).toNat * 1)) = some (.int .i64 l[k - 1]) := by rw [show ((k : Int) - 1).toNat = k - 1 from by omega]; exact hc2'
          -- r4.18 t30 := move  t1 ?17=True
          refine al_gtake (i := 18) rfl (by kernel_rfl) (by kernel_rfl) (by kernel_rfl) rfl rfl rfl (fun _ _ _ h => h) (op_move rfl) rfl ?_
          -- r4.19 t31 := move  t5 ?17=True
          refine al_gtake (i := 19) rfl (by kernel_rfl) (by kernel_rfl) (by kernel_rfl) rfl rfl rfl (fun _ _ _ h => h) (op_move rfl) rfl ?_
          -- r4.20 t32 := indexAddr [29] t30 t31 ?17=True
          refine al_gtake (i := 20) rfl (by kernel_rfl) (by kernel_rfl) (by kernel_rfl) rfl rfl rfl (fun _ _ _ h => h) (op_indexN sl_29 rfl rfl (by omega) (by assumption)) rfl ?_
          -- r4.21 t33 := load [3] t32 ?17=True
          refine al_gload (i := 21) rfl (by kernel_rfl) (by kernel_rfl) (by kernel_rfl) rfl rfl rfl (fun _ _ _ h => h) (by exact op_load1 one_3 rfl (fun w hw => hw.gcell hcl)) rfl hT ?_
          -- r4.22 t34 := move  t1 ?17=True
          refine al_gtake (i := 22) rfl (by kernel_rfl) (by kernel_rfl) (by kernel_rfl) rfl rfl rfl (fun _ _ _ h => h) (op_move rfl) rfl ?_
          -- r4.23 t35 := move  t5 ?17=True
          refine al_gtake (i := 23) rfl (by kernel_rfl) (by kernel_rfl) (by kernel_rfl) rfl rfl rfl (fun _ _ _ h => h) (op_move rfl) rfl ?_
          -- r4.24 t36 := sub t35 C1 ?17=True
          refine al_gtake (i := 24) rfl (by kernel_rfl) (by kernel_rfl) (by kernel_rfl) rfl rfl rfl (fun _ _ _ h => h) (op_sub rfl rfl (by omega) (by omega)) rfl ?_
          -- r4.25 t37 := indexAddr [29] t34 t36 ?17=True
          refine al_gtake (i := 25) rfl (by kernel_rfl) (by kernel_rfl) (by kernel_rfl) rfl rfl rfl (fun _ _ _ h => h) (op_indexAddr sl_29 rfl rfl (by omega) (by omega) hoa) rfl ?_
          -- r4.26 t38 := load [3] t37 ?17=True
          refine al_gload (i := 26) rfl (by kernel_rfl) (by kernel_rfl) (by kernel_rfl) rfl rfl rfl (fun _ _ _ h => h) (by exact op_load1 one_3 rfl (fun w hw => hw.gcell hc2)) rfl hT ?_
          -- r4.27 t39 := leq t33 t38 ?17=True
          refine al_gtake (i := 27) rfl (by kernel_rfl) (by kernel_rfl) (by kernel_rfl) rfl rfl rfl (fun _ _ _ h => h) (op_leq rfl rfl) rfl ?_
          -- r4.28 t40 := pick  t29 t39 Cfalse ?14=False
          refine al_gtake (i := 28) rfl (by kernel_rfl) (by kernel_rfl) (by kernel_rfl) rfl rfl rfl (fun _ _ _ h => h) (op_pick_t rfl rfl) rfl ?_
          -- r4.29 t41 := pick  t26 Ctrue t40
          refine al_take (i := 29) rfl (by kernel_rfl) (by kernel_rfl) (by kernel_rfl) rfl (fun _ _ _ h => h) (op_pick_f rfl rfl) rfl ?_
          refine al_done (by kernel_rfl) ?_
          refine pq_then ?_
          refine cw_cond rfl (fun h41 => ?_) (fun h41 => ?_)
          · skip
            try simp only [decide_eq_true_eq, decide_eq_false_iff_not, Bool.not_eq_true', Bool.not_eq_false', Bool.not_eq_eq_eq_not, Bool.not_true, Bool.not_false] at h41
            refine cw_seq ?_
            refine cw_region ?_
            -- r5.0 t4 := assign  Cfalse
            refine ol_pure rfl (op_assign rfl) ?_
            refine ol_nil ?_
            refine pq_then ?_
            refine cw_ret ?_
            refine pq_ret ?_
            refine pq_in_ret ?_
            refine pq_ret ?_
            refine pq_ret ?_
            refine pq_in_ret ?_
            refine pq_ret ?_
            refine ret1 rfl rfl ?_
            -- ret1 h9t h17f h26f h29t h41t
            exact hS.sc_b (by rw [setOpen, decide_eq_false (Pl.not_pairwise_at hlt (by omega) (by omega)), Bool.and_false, Bool.false_and])
          · skip
            try simp only [decide_eq_true_eq, decide_eq_false_iff_not, Bool.not_eq_true', Bool.not_eq_false', Bool.not_eq_eq_eq_not, Bool.not_true, Bool.not_false] at h41
            refine cw_skip ?_
            refine pq_then ?_
            refine cw_seq ?_
            obtain ⟨j, hj⟩ := Int.eq_ofNat_of_zero_le (show 0 ≤ l[k] by omega)
            have hjm : j < m.length := by omega
            obtain ⟨hoM, hcM, _⟩ := h3.int hjm
            have hvj : valI m l[k] = m[j] := by rw [hj]; exact val_at hjm
            refine cw_region ?_
            -- r6.0 t42 := move  t0
            refine ol_pure rfl (op_move rfl) ?_
            -- r6.1 t43 := move  t1
            refine ol_pure rfl (op_move rfl) ?_
            -- r6.2 t44 := move  t5
            refine ol_pure rfl (op_move rfl) ?_
            -- r6.3 t45 := indexAddr [29] t43 t44
            refine ol_pure rfl (op_indexN sl_29 rfl rfl (by omega) (by assumption)) ?_
            -- r6.4 t46 := load [3] t45
            refine ol_load rfl (op_load1 one_3 rfl (fun w hw => hw.gcell hcl)) hS ?_
            -- r6.5 t47 := indexAddr [29] t42 t46
            refine ol_pure rfl (op_indexAddr sl_29 rfl rfl (by omega) (by omega) hoM) ?_
            -- r6.6 t48 := load [3] t47
            refine ol_load rfl (op_load1 one_3 rfl (fun w hw => hw.gcell (by rw [hj]; exact hcM))) hS ?_
            -- r6.7 t49 := neq t48 C1
            refine ol_pure rfl (op_neq rfl rfl) ?_
            refine ol_nil ?_
            refine pq_then ?_
            refine cw_cond rfl (fun h49 => ?_) (fun h49 => ?_)
            · skip
              try simp only [decide_eq_true_eq, decide_eq_false_iff_not, Bool.not_eq_true', Bool.not_eq_false', Bool.not_eq_eq_eq_not, Bool.not_true, Bool.not_false] at h49
              refine cw_seq ?_
              refine cw_region ?_
              -- r7.0 t4 := assign  Cfalse
              refine ol_pure rfl (op_assign rfl) ?_
              refine ol_nil ?_
              refine pq_then ?_
              refine cw_ret ?_
              refine pq_in_ret ?_
              refine pq_ret ?_
              refine pq_ret ?_
              refine pq_in_ret ?_
              refine pq_ret ?_
              refine ret1 rfl rfl ?_
              -- ret2 h9t h17f h26f h29t h41f h49t
              exact hS.sc_b (by rw [setOpen, Pl.all_false_at (fun a => decide (0 ≤ a) && decide (a < (m.length : Int)) && decide (valI m a = 1)) _ _ hlt (by rw [hvj]; simp; omega)]; rfl)
            · skip
              try simp only [decide_eq_true_eq, decide_eq_false_iff_not, Bool.not_eq_true', Bool.not_eq_false', Bool.not_eq_eq_eq_not, Bool.not_true, Bool.not_false] at h49
              refine cw_skip ?_
              refine pq_in_normal ?_
              refine pq_then ?_
              refine cw_region ?_
              -- r3.0 t10 := move  t5
              refine ol_pure rfl (op_move rfl) ?_
              -- r3.1 t11 := add t10 C1
              refine ol_pure rfl (op_add rfl rfl (by omega) (by omega)) ?_
              -- r3.2 t5 := assign  t11
              refine ol_pure rfl (op_assign rfl) ?_
              refine ol_nil ?_
              -- end of round 1 h9t h17f h26f h29t h41f h49f
              refine pq_loop _ _ (by exact ⟨k + 1, rfl, by omega, rfl, by rw [Pl.all_take_succ (fun a => decide (0 ≤ a) && decide (a < (m.length : Int)) && decide (valI m a = 1)) _ _ hlt, hp, hvj]; simp; omega, Pl.pairwise_take_succ hlt hq (.inr ⟨by omega, by omega⟩), hS⟩) ((Sub.cons rfl (Sub.cons rfl (Sub.cons rfl Sub.nil)))) (by omega)
        · skip
          try simp only [decide_eq_true_eq, decide_eq_false_iff_not, Bool.not_eq_true', Bool.not_eq_false', Bool.not_eq_eq_eq_not, Bool.not_true, Bool.not_false] at h29
          refine al_gskip (i := 18) rfl (by kernel_rfl) (by kernel_rfl) (by kernel_rfl) rfl rfl rfl rfl (fun _ _ _ h => h) (fun _ => hT) ?_
          refine al_gskip (i := 19) rfl (by kernel_rfl) (by kernel_rfl) (by kernel_rfl) rfl rfl rfl rfl (fun _ _ _ h => h) (fun _ => hT) ?_
          refine al_gskip (i := 20) rfl (by kernel_rfl) (by kernel_rfl) (by kernel_rfl) rfl rfl rfl rfl (fun _ _ _ h => h) (fun _ => hT) ?_
          refine al_gskip (i := 21) rfl (by kernel_rfl) (by kernel_rfl) (by kernel_rfl) rfl rfl rfl rfl (fun _ _ _ h => h) (fun _ => hT) ?_
          refine al_gskip (i := 22) rfl (by kernel_rfl) (by kernel_rfl) (by kernel_rfl) rfl rfl rfl rfl (fun _ _ _ h => h) (fun _ => hT) ?_
          refine al_gskip (i := 23) rfl (by kernel_rfl) (by kernel_rfl) (by kernel_rfl) rfl rfl rfl rfl (fun _ _ _ h => h) (fun _ => hT) ?_
          refine al_gskip (i := 24) rfl (by kernel_rfl) (by kernel_rfl) (by kernel_rfl) rfl rfl rfl rfl (fun _ _ _ h => h) (fun _ => hT) ?_
          refine al_gskip (i := 25) rfl (by kernel_rfl) (by kernel_rfl) (by kernel_rfl) rfl rfl rfl rfl (fun _ _ _ h => h) (fun _ => hT) ?_
          refine al_gskip (i := 26) rfl (by kernel_rfl) (by kernel_rfl) (by kernel_rfl) rfl rfl rfl rfl (fun _ _ _ h => h) (fun _ => hT) ?_
          refine al_gskip (i := 27) rfl (by kernel_rfl) (by kernel_rfl) (by kernel_rfl) rfl rfl rfl rfl (fun _ _ _ h => h) (fun _ => hT) ?_
          -- r4.28 t40 := pick  t29 t39 Cfalse ?14=False
          refine al_gtake (i := 28) rfl (by kernel_rfl) (by kernel_rfl) (by kernel_rfl) rfl rfl rfl (fun _ _ _ h => h) (op_pick_f rfl rfl) rfl ?_
          -- r4.29 t41 := pick  t26 Ctrue t40
          refine al_take (i := 29) rfl (by kernel_rfl) (by kernel_rfl) (by kernel_rfl) rfl (fun _ _ _ h => h) (op_pick_f rfl rfl) rfl ?_
          refine al_done (by kernel_rfl) ?_
          refine pq_then ?_
          refine cw_cond_f rfl ?_
          refine cw_skip ?_
          refine pq_then ?_
          refine cw_seq ?_
          obtain ⟨j, hj⟩ := Int.eq_ofNat_of_zero_le (show 0 ≤ l[k] by omega)
          have hjm : j < m.length := by omega
          obtain ⟨hoM, hcM, _⟩ := h3.int hjm
          have hvj : valI m l[k] = m[j] := by rw [hj]; exact val_at hjm
          refine cw_region ?_
          -- r6.0 t42 := move  t0
          refine ol_pure rfl (op_move rfl) ?_
          -- r6.1 t43 := move  t1
          refine ol_pure rfl (op_move rfl) ?_
          -- r6.2 t44 := move  t5
          refine ol_pure rfl (op_move rfl) ?_
          -- r6.3 t45 := indexAddr [29] t43 t44
          refine ol_pure rfl (op_indexN sl_29 rfl rfl (by omega) (by assumption)) ?_
          -- r6.4 t46 := load [3] t45
          refine ol_load rfl (op_load1 one_3 rfl (fun w hw => hw.gcell hcl)) hS ?_
          -- r6.5 t47 := indexAddr [29] t42 t46
          refine ol_pure rfl (op_indexAddr sl_29 rfl rfl (by omega) (by omega) hoM) ?_
          -- r6.6 t48 := load [3] t47
          refine ol_load rfl (op_load1 one_3 rfl (fun w hw => hw.gcell (by rw [hj]; exact hcM))) hS ?_
          -- r6.7 t49 := neq t48 C1
          refine ol_pure rfl (op_neq rfl rfl) ?_
          refine ol_nil ?_
          refine pq_then ?_
          refine cw_cond rfl (fun h49 => ?_) (fun h49 => ?_)
          · skip
            try simp only [decide_eq_true_eq, decide_eq_false_iff_not, Bool.not_eq_true', Bool.not_eq_false', Bool.not_eq_eq_eq_not, Bool.not_true, Bool.not_false] at h49
            refine cw_seq ?_
            refine cw_region ?_
            -- r7.0 t4 := assign  Cfalse
            refine ol_pure rfl (op_assign rfl) ?_
            refine ol_nil ?_
            refine pq_then ?_
            refine cw_ret ?_
            refine pq_in_ret ?_
            refine pq_ret ?_
            refine pq_ret ?_
            refine pq_in_ret ?_
            refine pq_ret ?_
            refine ret1 rfl rfl ?_
            -- ret2 h9t h17f h26f h29f h49t
            exact hS.sc_b (by rw [setOpen, Pl.all_false_at (fun a => decide (0 ≤ a) && decide (a < (m.length : Int)) && decide (valI m a = 1)) _ _ hlt (by rw [hvj]; simp; omega)]; rfl)
          · skip
            try simp only [decide_eq_true_eq, decide_eq_false_iff_not, Bool.not_eq_true', Bool.not_eq_false', Bool.not_eq_eq_eq_not, Bool.not_true, Bool.not_false] at h49
            refine cw_skip ?_
            refine pq_in_normal ?_
            refine pq_then ?_
            refine cw_region ?_
            -- r3.0 t10 := move  t5
            refine ol_pure rfl (op_move rfl) ?_
            -- r3.1 t11 := add t10 C1
            refine ol_pure rfl (op_add rfl rfl (by omega) (by omega)) ?_
            -- r3.2 t5 := assign  t11
            refine ol_pure rfl (op_assign rfl) ?_
            refine ol_nil ?_
            -- end of round 1 h9t h17f h26f h29f h49f
            refine pq_loop _ _ (by exact ⟨k + 1, rfl, by omega, rfl, by rw [Pl.all_take_succ (fun a => decide (0 ≤ a) && decide (a < (m.length : Int)) && decide (valI m a = 1)) _ _ hlt, hp, hvj]; simp; omega, Pl.pairwise_take_succ hlt hq (.inl (by omega)), hS⟩) ((Sub.cons rfl (Sub.cons rfl (Sub.cons rfl Sub.nil)))) (by omega)
  · skip
    try simp only [decide_eq_true_eq, decide_eq_false_iff_not, Bool.not_eq_true', Bool.not_eq_false', Bool.not_eq_eq_eq_not, Bool.not_true, Bool.not_false] at h9
    refine cw_exit ?_
    refine pq_exit ?_
    refine pq_exit ?_
    refine pq_in_exit ?_
    refine pq_then ?_
    refine cw_seq ?_
    refine cw_region ?_
    -- r8.0 t50 := move  t1
    refine ol_pure rfl (op_move rfl) ?_
    -- r8.1 t51 := call len t50
    refine ol_pure rfl (op_len sl_29 rfl rfl) ?_
    -- r8.2 t52 := gtr t51 C0
    refine ol_pure rfl (op_gtr rfl rfl) ?_
    -- r8.3 t4 := assign  t52
    refine ol_pure rfl (op_assign rfl) ?_
    refine ol_nil ?_
    refine pq_then ?_
    refine cw_ret ?_
    refine ret1 rfl rfl ?_
    -- ret3 h9f
    rw [List.take_of_length_le (by omega)] at hp hq
    exact hS.sc_b (by rw [setOpen, hp, decide_eq_true hq]; simp)
set_option maxRecDepth 100000 in
set_option maxHeartbeats 2000000 in

theorem R22_holds_c (G : GH) (w0 : World) (hG : Holds G w0) {α : Type} {E : ER α} (hE : EMono E) (va vr : Value) (atoms : List α) (rs : List Rule) (h1 : RSl 1 E G va atoms) (h2 : RSl 3 ERule G vr rs) (hP : PrOk atoms.length rs) (vm : Value) (m : List Int) (h3 : RSl 1 EInt G vm m) (hm : m.length = atoms.length) (s : Step) (u : Value) (h4 : RSl 1 EInt G u s.atoms) (hsb : -9223372036854775808 ≤ s.rule ∧ s.rule ≤ 9223372036854775807)  :
    Calls Try.prog 38 #[.agg #[va, vr], vm, .agg #[.int .i64 s.rule, u]] w0 (Sc w0 (.bool (stepOk rs m s))) := by
  obtain ⟨oA, cA, rfl, hlA, hmA⟩ := h1.elim
  obtain ⟨oR, cR, rfl, hlR, hmR⟩ := h2.elim
  have hle1 := h1.le
  have hle2 := h2.le
  have hPn := hP.n_le
  have hPm := hP.m_le
  obtain ⟨oM, cM, rfl, hlM, hmM⟩ := h3.elim
  obtain ⟨oS, cS, rfl, hlS, hmS⟩ := h4.elim
  have hSle := h4.le
  refine enter Try.func38 rfl (N := 99) rfl (Nat.le_of_ble_eq_true rfl) ?_
  have hS := SS.init hG
  refine cw_seq ?_
  refine cw_region ?_
  -- r0.0 t3 := box [25] t0
  refine ol_step rfl (op_box hS rfl rfl) ?_
  clear hS
  rintro _ w ⟨b3, rfl, hS⟩
  -- r0.1 t5 := box [44] t2
  refine ol_step rfl (op_box hS rfl rfl) ?_
  clear hS
  rintro _ w ⟨b5, rfl, hS⟩
  -- r0.2 t6 := assign  Cfalse
  refine ol_pure rfl (op_assign rfl) ?_
  refine ol_nil ?_
  refine pq_then ?_
  refine cw_seq ?_
  refine cw_seq ?_
  refine cw_region ?_
  -- r1.0 t10 := move  t1
  refine ol_pure rfl (op_move rfl) ?_
  -- r1.1 t11 := fieldAddr [44, 1] t5
  refine ol_pure rfl (op_fieldAddr fld_44_1 rfl) ?_
  -- r1.2 t12 := load [29] t11
  refine ol_load rfl (op_load1 one_29 rfl (fun w hw => (hw.bcell (i := 0) rfl).trans rfl)) hS ?_
  -- r1.3 t13 := call f58 t10 t12
  refine ol_step rfl (op_call_sc hS cf_58 rfl (R22_set_c G _ hS.hold _ m h3 _ s.atoms h4)) ?_
  clear hS
  rintro _ w ⟨rfl, hS⟩
  -- r1.4 t14 := not t13
  refine ol_pure rfl (op_not rfl) ?_
  refine ol_nil ?_
  refine pq_then ?_
  refine cw_cond rfl (fun h14 => ?_) (fun h14 => ?_)
  · skip
    try simp only [decide_eq_true_eq, decide_eq_false_iff_not, Bool.not_eq_true', Bool.not_eq_false', Bool.not_eq_eq_eq_not, Bool.not_true, Bool.not_false] at h14
    have hso := stepOk_noset (rs := rs) h14
    refine cw_seq ?_
    refine cw_region ?_
    -- r2.0 t6 := assign  Cfalse
    refine ol_pure rfl (op_assign rfl) ?_
    refine ol_nil ?_
    refine pq_then ?_
    refine cw_ret ?_
    refine pq_ret ?_
    refine ret1 rfl rfl ?_
    -- ret1 h14t
    exact hS.sc_b hso.symm
  · skip
    try simp only [decide_eq_true_eq, decide_eq_false_iff_not, Bool.not_eq_true', Bool.not_eq_false', Bool.not_eq_eq_eq_not, Bool.not_true, Bool.not_false] at h14
    refine cw_skip ?_
    refine pq_then ?_
    refine cw_seq ?_
    refine cw_seq ?_
    refine cw_region ?_
    -- r3.0 t15 := fieldAddr [44, 0] t5
    refine ol_pure rfl (op_fieldAddr fld_44_0 rfl) ?_
    -- r3.1 t16 := load [3] t15
    refine ol_load rfl (op_load1 one_3 rfl (fun w hw => (hw.bcell (i := 0) rfl).trans rfl)) hS ?_
    -- r3.2 t17 := geq t16 C0
    refine ol_pure rfl (op_geq rfl rfl) ?_
    -- r3.3 t18 := move  t17
    refine ol_pure rfl (op_move rfl) ?_
    refine ol_split (fun h18 => ?_) (fun h18 => ?_)
    · skip
      try simp only [decide_eq_true_eq, decide_eq_false_iff_not, Bool.not_eq_true', Bool.not_eq_false', Bool.not_eq_eq_eq_not, Bool.not_true, Bool.not_false] at h18
      -- r3.4 t19 := fieldAddr [44, 0] t5 ?3=True
      refine ol_guard_pure rfl rfl rfl (op_fieldAddr fld_44_0 rfl) ?_
      -- r3.5 t20 := load [3] t19 ?3=True
      refine ol_guard_load rfl rfl rfl (op_load1 one_3 rfl (fun w hw => (hw.bcell (i := 0) rfl).trans rfl)) hS ?_
      -- r3.6 t21 := fieldAddr [25, 1] t3 ?3=True
      refine ol_guard_pure rfl rfl rfl (op_fieldAddr fld_25_1 rfl) ?_
      -- r3.7 t22 := load [23] t21 ?3=True
      refine ol_guard_load rfl rfl rfl (op_load1 one_23 rfl (fun w hw => (hw.bcell (i := 1) rfl).trans rfl)) hS ?_
      -- r3.8 t23 := call len t22 ?3=True
      refine ol_guard_pure rfl rfl rfl (op_len sl_23 rfl rfl) ?_
      -- r3.9 t24 := lss t20 t23 ?3=True
      refine ol_guard_pure rfl rfl rfl (op_lss rfl rfl) ?_
      -- r3.10 t25 := pick  t18 t24 Cfalse
      refine ol_pure rfl (op_pick_t rfl rfl) ?_
      refine ol_nil ?_
      refine pq_then ?_
      refine cw_cond rfl (fun h25 => ?_) (fun h25 => ?_)
      · skip
        try simp only [decide_eq_true_eq, decide_eq_false_iff_not, Bool.not_eq_true', Bool.not_eq_false', Bool.not_eq_eq_eq_not, Bool.not_true, Bool.not_false] at h25
        obtain ⟨k, hk⟩ := Int.eq_ofNat_of_zero_le (show 0 ≤ s.rule by omega)
        have hlt : k < rs.length := by omega
        have hrk := (hP.rule _ (List.getElem_mem hlt)).1
        obtain ⟨hoa, cs, hcl, ⟨p, q, rfl, hp, hq, hhd⟩, hcells⟩ := h2.el hlt
        obtain ⟨op, cp, hpe, hlp, hmp⟩ := hp.elim
        obtain ⟨oq, cq, hqe, hlq, hmq⟩ := hq.elim
        subst hpe
        subst hqe
        have hple := hp.le
        have hrm : RuleOk m.length rs[k] := by rw [hm]; exact hrk
        have hcells2 : ∀ (j : Nat) (u : Value), [Value.int .i64 rs[k].head, .slice op rs[k].pos.length cp, .slice oq rs[k].neg.length cq][j]? = some u → gcell G ((elA oR (s.rule.toNat * 3)).add j) = some u := by rw [hk]; exact hcells
        have hby := stepOk_byrule (m := m) hk hlt
        refine cw_seq ?_
        refine cw_region ?_
        -- r4.0 t26 := fieldAddr [25, 1] t3
        refine ol_pure rfl (op_fieldAddr fld_25_1 rfl) ?_
        -- r4.1 t27 := load [23] t26
        refine ol_load rfl (op_load1 one_23 rfl (fun w hw => (hw.bcell (i := 1) rfl).trans rfl)) hS ?_
        -- r4.2 t28 := fieldAddr [44, 0] t5
        refine ol_pure rfl (op_fieldAddr fld_44_0 rfl) ?_
        -- r4.3 t29 := load [3] t28
        refine ol_load rfl (op_load1 one_3 rfl (fun w hw => (hw.bcell (i := 0) rfl).trans rfl)) hS ?_
        -- r4.4 t30 := indexAddr [23] t27 t29
        refine ol_pure rfl (op_indexAddr sl_23 rfl rfl (by omega) (by omega) hoa) ?_
        -- r4.5 t31 := load [48] t30
        refine ol_load rfl (op_loadN agg_48 rfl (by rfl) (fun w hw k u hk => hw.gcell (hcells2 k u hk))) hS ?_
        -- r4.6 t7 := alloc [48] 
        refine ol_step rfl (op_alloc hS el_48 rfl) ?_
        clear hS
        rintro _ w ⟨b7, rfl, hS⟩
        -- r4.7 _ := store [48] t7 t31
        refine ol_step0  (op_storeN (j := 0) hS sz_48 rfl rfl rfl rfl rfl (by simp [Value.oneCell'])) ?_
        clear hS
        rintro _ w hS; (try simp only [List.nil_append, List.cons_append, List.set] at hS)
        refine ol_nil ?_
        refine pq_then ?_
        refine cw_seq ?_
        refine al_start' hS (hS.take 2) (by kernel_rfl) rfl (fun w hS hT => ?_)
        -- r5.0 t32 := fieldAddr [44, 1] t5
        refine al_take (i := 0) rfl (by kernel_rfl) (by kernel_rfl) (by kernel_rfl) rfl (fun _ _ _ h => h) (op_fieldAddr fld_44_1 rfl) rfl ?_
        -- r5.1 t33 := load [29] t32
        refine al_load (i := 1) rfl (by kernel_rfl) (by kernel_rfl) (by kernel_rfl) rfl (fun _ _ _ h => h) (by exact op_load1 one_29 rfl (fun w hw => (hw.bcell (i := 1) rfl).trans rfl)) rfl hT ?_
        -- r5.2 t34 := call len t33
        refine al_take (i := 2) rfl (by kernel_rfl) (by kernel_rfl) (by kernel_rfl) rfl (fun _ _ _ h => h) (op_len sl_29 rfl rfl) rfl ?_
        -- r5.3 t35 := eql t34 C1
        refine al_take (i := 3) rfl (by kernel_rfl) (by kernel_rfl) (by kernel_rfl) rfl (fun _ _ _ h => h) (op_eql rfl rfl) rfl ?_
        -- r5.4 t36 := move  t35
        refine al_take (i := 4) rfl (by kernel_rfl) (by kernel_rfl) (by kernel_rfl) rfl (fun _ _ _ h => h) (op_move rfl) rfl ?_
        refine al_split (fun h36 => ?_) (fun h36 => ?_)
        · skip
          try simp only [decide_eq_true_eq, decide_eq_false_iff_not, Bool.not_eq_true', Bool.not_eq_false', Bool.not_eq_eq_eq_not, Bool.not_true, Bool.not_false] at h36
          have hl0 : 0 < s.atoms.length := by omega
          obtain ⟨hoS, hcS, _⟩ := h4.int hl0
          have hone : (s.atoms[0] = rs[k].head) = (s.atoms = [rs[k].head]) := one_eq (by omega) hl0
          -- r5.5 t37 := fieldAddr [44, 1] t5 ?4=True
          refine al_gtake (i := 5) rfl (by kernel_rfl) (by kernel_rfl) (by kernel_rfl) rfl rfl rfl (fun _ _ _ h => h) (op_fieldAddr fld_44_1 rfl) rfl ?_
          -- r5.6 t38 := load [29] t37 ?4=True
          refine al_gload (i := 6) rfl (by kernel_rfl) (by kernel_rfl) (by kernel_rfl) rfl rfl rfl (fun _ _ _ h => h) (by exact op_load1 one_29 rfl (fun w hw => (hw.bcell (i := 1) rfl).trans rfl)) rfl hT ?_
          -- r5.7 t39 := indexAddr [29] t38 C0 ?4=True
          refine al_gtake (i := 7) rfl (by kernel_rfl) (by kernel_rfl) (by kernel_rfl) rfl rfl rfl (fun _ _ _ h => h) (op_indexN (i := 0) sl_29 rfl rfl (by omega) hoS) rfl ?_
          -- r5.8 t40 := load [3] t39 ?4=True
          refine al_gload (i := 8) rfl (by kernel_rfl) (by kernel_rfl) (by kernel_rfl) rfl rfl rfl (fun _ _ _ h => h) (by exact op_load1 one_3 rfl (fun w hw => hw.gcell hcS)) rfl hT ?_
          -- r5.9 t41 := fieldAddr [48, 0] t7 ?4=True
          refine al_gtake (i := 9) rfl (by kernel_rfl) (by kernel_rfl) (by kernel_rfl) rfl rfl rfl (fun _ _ _ h => h) (op_fieldAddr fld_48_0 rfl) rfl ?_
          -- r5.10 t42 := load [3] t41 ?4=True
          refine al_gload (i := 10) rfl (by kernel_rfl) (by kernel_rfl) (by kernel_rfl) rfl rfl rfl (fun _ _ _ h => h) (by exact op_load1 one_3 rfl (fun w hw => (hw.bcell (i := 0) rfl).trans rfl)) rfl hT ?_
          -- r5.11 t43 := eql t40 t42 ?4=True
          refine al_gtake (i := 11) rfl (by kernel_rfl) (by kernel_rfl) (by kernel_rfl) rfl rfl rfl (fun _ _ _ h => h) (op_eql rfl rfl) rfl ?_
          -- r5.12 t44 := pick  t36 t43 Cfalse
          refine al_take (i := 12) rfl (by kernel_rfl) (by kernel_rfl) (by kernel_rfl) rfl (fun _ _ _ h => h) (op_pick_t rfl rfl) rfl ?_
          -- r5.13 t45 := move  t44
          refine al_take (i := 13) rfl (by kernel_rfl) (by kernel_rfl) (by kernel_rfl) rfl (fun _ _ _ h => h) (op_move rfl) rfl ?_
          refine al_split (fun h45 => ?_) (fun h45 => ?_)
          · skip
            try simp only [decide_eq_true_eq, decide_eq_false_iff_not, Bool.not_eq_true', Bool.not_eq_false', Bool.not_eq_eq_eq_not, Bool.not_true, Bool.not_false] at h45
            -- r5.14 t46 := move  t1 ?13=True
            refine al_gtake (i := 14) rfl (by kernel_rfl) (by kernel_rfl) (by kernel_rfl) rfl rfl rfl (fun _ _ _ h => h) (op_move rfl) rfl ?_
            -- r5.15 t47 := fieldAddr [48, 1] t7 ?13=True
            refine al_gtake (i := 15) rfl (by kernel_rfl) (by kernel_rfl) (by kernel_rfl) rfl rfl rfl (fun _ _ _ h => h) (op_fieldAddr fld_48_1 rfl) rfl ?_
            -- r5.16 t48 := load [29] t47 ?13=True
            refine al_gload (i := 16) rfl (by kernel_rfl) (by kernel_rfl) (by kernel_rfl) rfl rfl rfl (fun _ _ _ h => h) (by exact op_load1 one_29 rfl (fun w hw => (hw.bcell (i := 0) rfl).trans rfl)) rfl hT ?_
            refine al_gstep (i := 17) rfl (by kernel_rfl) rfl rfl rfl (op_call_sc hS cf_36 rfl (R22_are_c G _ hS.hold _ m h3 _ rs[k].pos 2 hp hrm.2.1)) ?_
            clear hS
            rintro _ w ⟨rfl, hS⟩
            have hT := hT.back hS (by first | exact Le.refl _ | assumption) (fun x hx => by try simp only [List.take_succ_cons, List.take_zero, List.mem_cons, List.not_mem_nil, or_false] at hx; (rcases hx with rfl | rfl) <;> simp)
            refine ⟨fun _ _ => hT, ?_⟩
            -- r5.18 t50 := pick  t45 t49 Cfalse
            refine al_take (i := 18) rfl (by kernel_rfl) (by kernel_rfl) (by kernel_rfl) rfl (fun _ _ _ h => h) (op_pick_t rfl rfl) rfl ?_
            -- r5.19 t51 := move  t50
            refine al_take (i := 19) rfl (by kernel_rfl) (by kernel_rfl) (by kernel_rfl) rfl (fun _ _ _ h => h) (op_move rfl) rfl ?_
            refine al_split (fun h51 => ?_) (fun h51 => ?_)
            · skip
              try simp only [decide_eq_true_eq, decide_eq_false_iff_not, Bool.not_eq_true', Bool.not_eq_false', Bool.not_eq_eq_eq_not, Bool.not_true, Bool.not_false] at h51
              -- r5.20 t52 := move  t1 ?19=True
              refine al_gtake (i := 20) rfl (by kernel_rfl) (by kernel_rfl) (by kernel_rfl) rfl rfl rfl (fun _ _ _ h => h) (op_move rfl) rfl ?_
              -- r5.21 t53 := fieldAddr [48, 2] t7 ?19=True
              refine al_gtake (i := 21) rfl (by kernel_rfl) (by kernel_rfl) (by kernel_rfl) rfl rfl rfl (fun _ _ _ h => h) (op_fieldAddr fld_48_2 rfl) rfl ?_
              -- r5.22 t54 := load [29] t53 ?19=True
              refine al_gload (i := 22) rfl (by kernel_rfl) (by kernel_rfl) (by kernel_rfl) rfl rfl rfl (fun _ _ _ h => h) (by exact op_load1 one_29 rfl (fun w hw => (hw.bcell (i := 0) rfl).trans rfl)) rfl hT ?_
              refine al_gstep (i := 23) rfl (by kernel_rfl) rfl rfl rfl (op_call_sc hS cf_36 rfl (R22_are_c G _ hS.hold _ m h3 _ rs[k].neg 0 hq hrm.2.2)) ?_
              clear hS
              rintro _ w ⟨rfl, hS⟩
              have hT := hT.back hS (by first | exact Le.refl _ | assumption) (fun x hx => by try simp only [List.take_succ_cons, List.take_zero, List.mem_cons, List.not_mem_nil, or_false] at hx; (rcases hx with rfl | rfl) <;> simp)
              refine ⟨fun _ _ => hT, ?_⟩
              -- r5.24 t56 := pick  t51 t55 Cfalse
              refine al_take (i := 24) rfl (by kernel_rfl) (by kernel_rfl) (by kernel_rfl) rfl (fun _ _ _ h => h) (op_pick_t rfl rfl) rfl ?_
              -- r5.25 t6 := assign  t56
              refine al_take (i := 25) rfl (by kernel_rfl) (by kernel_rfl) (by kernel_rfl) rfl (fun _ _ _ h => h) (op_assign rfl) rfl ?_
              refine al_done (by kernel_rfl) ?_
              refine pq_then ?_
              refine cw_ret ?_
              refine pq_ret ?_
              refine ret1 rfl rfl ?_
              -- ret2 h14f h18t h25t h36t h45t h51t
              exact hS.sc_b (by rw [hby]; simp_all [firesB])
            · skip
              try simp only [decide_eq_true_eq, decide_eq_false_iff_not, Bool.not_eq_true', Bool.not_eq_false', Bool.not_eq_eq_eq_not, Bool.not_true, Bool.not_false] at h51
              refine al_gskip (i := 20) rfl (by kernel_rfl) (by kernel_rfl) (by kernel_rfl) rfl rfl rfl rfl (fun _ _ _ h => h) (fun _ => hT) ?_
              refine al_gskip (i := 21) rfl (by kernel_rfl) (by kernel_rfl) (by kernel_rfl) rfl rfl rfl rfl (fun _ _ _ h => h) (fun _ => hT) ?_
              refine al_gskip (i := 22) rfl (by kernel_rfl) (by kernel_rfl) (by kernel_rfl) rfl rfl rfl rfl (fun _ _ _ h => h) (fun _ => hT) ?_
              refine al_gskip (i := 23) rfl (by kernel_rfl) (by kernel_rfl) (by kernel_rfl) rfl rfl rfl rfl (fun _ _ _ h => h) (fun _ => hT) ?_
              -- r5.24 t56 := pick  t51 t55 Cfalse
              refine al_take (i := 24) rfl (by kernel_rfl) (by kernel_rfl) (by kernel_rfl) rfl (fun _ _ _ h => h) (op_pick_f rfl rfl) rfl ?_
              -- r5.25 t6 := assign  t56
              refine al_take (i := 25) rfl (by kernel_rfl) (by kernel_rfl) (by kernel_rfl) rfl (fun _ _ _ h => h) (op_assign rfl) rfl ?_
              refine al_done (by kernel_rfl) ?_
              refine pq_then ?_
              refine cw_ret ?_
              refine pq_ret ?_
              refine ret1 rfl rfl ?_
              -- ret2 h14f h18t h25t h36t h45t h51f
              exact hS.sc_b (by rw [hby]; simp_all [firesB])
          · skip
            try simp only [decide_eq_true_eq, decide_eq_false_iff_not, Bool.not_eq_true', Bool.not_eq_false', Bool.not_eq_eq_eq_not, Bool.not_true, Bool.not_false] at h45
            refine al_gskip (i := 14) rfl (by kernel_rfl) (by kernel_rfl) (by kernel_rfl) rfl rfl rfl rfl (fun _ _ _ h => h) (fun _ => hT) ?_
            refine al_gskip (i := 15) rfl (by kernel_rfl) (by kernel_rfl) (by kernel_rfl) rfl rfl rfl rfl (fun _ _ _ h => h) (fun _ => hT) ?_
            refine al_gskip (i := 16) rfl (by kernel_rfl) (by kernel_rfl) (by kernel_rfl) rfl rfl rfl rfl (fun _ _ _ h => h) (fun _ => hT) ?_
            refine al_gskip (i := 17) rfl (by kernel_rfl) (by kernel_rfl) (by kernel_rfl) rfl rfl rfl rfl (fun _ _ _ h => h) (fun _ => hT) ?_
            -- r5.18 t50 := pick  t45 t49 Cfalse
            refine al_take (i := 18) rfl (by kernel_rfl) (by kernel_rfl) (by kernel_rfl) rfl (fun _ _ _ h => h) (op_pick_f rfl rfl) rfl ?_
            -- r5.19 t51 := move  t50
            refine al_take (i := 19) rfl (by kernel_rfl) (by kernel_rfl) (by kernel_rfl) rfl (fun _ _ _ h => h) (op_move rfl) rfl ?_
            refine al_gskip (i := 20) rfl (by kernel_rfl) (by kernel_rfl) (by kernel_rfl) rfl rfl rfl rfl (fun _ _ _ h => h) (fun _ => hT) ?_
            refine al_gskip (i := 21) rfl (by kernel_rfl) (by kernel_rfl) (by kernel_rfl) rfl rfl rfl rfl (fun _ _ _ h => h) (fun _ => hT) ?_
            refine al_gskip (i := 22) rfl (by kernel_rfl) (by kernel_rfl) (by kernel_rfl) rfl rfl rfl rfl (fun _ _ _ h => h) (fun _ => hT) ?_
            refine al_gskip (i := 23) rfl (by kernel_rfl) (by kernel_rfl) (by kernel_rfl) rfl rfl rfl rfl (fun _ _ _ h => h) (fun _ => hT) ?_
            -- r5.24 t56 := pick  t51 t55 Cfalse
            refine al_take (i := 24) rfl (by kernel_rfl) (by kernel_rfl) (by kernel_rfl) rfl (fun _ _ _ h => h) (op_pick_f rfl rfl) rfl ?_
            -- r5.25 t6 := assign  t56
            refine al_take (i := 25) rfl (by kernel_rfl) (by kernel_rfl) (by kernel_rfl) rfl (fun _ _ _ h => h) (op_assign rfl) rfl ?_
            refine al_done (by kernel_rfl) ?_
            refine pq_then ?_
            refine cw_ret ?_
            refine pq_ret ?_
            refine ret1 rfl rfl ?_
            -- ret2 h14f h18t h25t h36t h45f
            exact hS.sc_b (by rw [hby, decide_eq_false (by rw [← hone]; exact h45)]; simp)
        · skip
          try simp only [decide_eq_true_eq, decide_eq_false_iff_not, Bool.not_eq_true', Bool.not_eq_false', Bool.not_eq_eq_eq_not, Bool.not_true, Bool.not_false] at h36
          have hne : ¬ s.atoms = [rs[k].head] := fun hh => h36 (by rw [hh]; rfl)
          refine al_gskip (i := 5) rfl (by kernel_rfl) (by kernel_rfl) (by kernel_rfl) rfl rfl rfl rfl (fun _ _ _ h => h) (fun _ => hT) ?_
          refine al_gskip (i := 6) rfl (by kernel_rfl) (by kernel_rfl) (by kernel_rfl) rfl rfl rfl rfl (fun _ _ _ h => h) (fun _ => hT) ?_
          refine al_gskip (i := 7) rfl (by kernel_rfl) (by kernel_rfl) (by kernel_rfl) rfl rfl rfl rfl (fun _ _ _ h => h) (fun _ => hT) ?_
          refine al_gskip (i := 8) rfl (by kernel_rfl) (by kernel_rfl) (by kernel_rfl) rfl rfl rfl rfl (fun _ _ _ h => h) (fun _ => hT) ?_
          refine al_gskip (i := 9) rfl (by kernel_rfl) (by kernel_rfl) (by kernel_rfl) rfl rfl rfl rfl (fun _ _ _ h => h) (fun _ => hT) ?_
          refine al_gskip (i := 10) rfl (by kernel_rfl) (by kernel_rfl) (by kernel_rfl) rfl rfl rfl rfl (fun _ _ _ h => h) (fun _ => hT) ?_
          refine al_gskip (i := 11) rfl (by kernel_rfl) (by kernel_rfl) (by kernel_rfl) rfl rfl rfl rfl (fun _ _ _ h => h) (fun _ => hT) ?_
          -- r5.12 t44 := pick  t36 t43 Cfalse
          refine al_take (i := 12) rfl (by kernel_rfl) (by kernel_rfl) (by kernel_rfl) rfl (fun _ _ _ h => h) (op_pick_f rfl rfl) rfl ?_
          -- r5.13 t45 := move  t44
          refine al_take (i := 13) rfl (by kernel_rfl) (by kernel_rfl) (by kernel_rfl) rfl (fun _ _ _ h => h) (op_move rfl) rfl ?_
          refine al_gskip (i := 14) rfl (by kernel_rfl) (by kernel_rfl) (by kernel_rfl) rfl rfl rfl rfl (fun _ _ _ h => h) (fun _ => hT) ?_
          refine al_gskip (i := 15) rfl (by kernel_rfl) (by kernel_rfl) (by kernel_rfl) rfl rfl rfl rfl (fun _ _ _ h => h) (fun _ => hT) ?_
          refine al_gskip (i := 16) rfl (by kernel_rfl) (by kernel_rfl) (by kernel_rfl) rfl rfl rfl rfl (fun _ _ _ h => h) (fun _ => hT) ?_
          refine al_gskip (i := 17) rfl (by kernel_rfl) (by kernel_rfl) (by kernel_rfl) rfl rfl rfl rfl (fun _ _ _ h => h) (fun _ => hT) ?_
          -- r5.18 t50 := pick  t45 t49 Cfalse
          refine al_take (i := 18) rfl (by kernel_rfl) (by kernel_rfl) (by kernel_rfl) rfl (fun _ _ _ h => h) (op_pick_f rfl rfl) rfl ?_
          -- r5.19 t51 := move  t50
          refine al_take (i := 19) rfl (by kernel_rfl) (by kernel_rfl) (by kernel_rfl) rfl (fun _ _ _ h => h) (op_move rfl) rfl ?_
          refine al_gskip (i := 20) rfl (by kernel_rfl) (by kernel_rfl) (by kernel_rfl) rfl rfl rfl rfl (fun _ _ _ h => h) (fun _ => hT) ?_
          refine al_gskip (i := 21) rfl (by kernel_rfl) (by kernel_rfl) (by kernel_rfl) rfl rfl rfl rfl (fun _ _ _ h => h) (fun _ => hT) ?_
          refine al_gskip (i := 22) rfl (by kernel_rfl) (by kernel_rfl) (by kernel_rfl) rfl rfl rfl rfl (fun _ _ _ h => h) (fun _ => hT) ?_
          refine al_gskip (i := 23) rfl (by kernel_rfl) (by kernel_rfl) (by kernel_rfl) rfl rfl rfl rfl (fun _ _ _ h => h) (fun _ => hT) ?_
          -- r5.24 t56 := pick  t51 t55 Cfalse
          refine al_take (i := 24) rfl (by kernel_rfl) (by kernel_rfl) (by kernel_rfl) rfl (fun _ _ _ h => h) (op_pick_f rfl rfl) rfl ?_
          -- r5.25 t6 := assign  t56
          refine al_take (i := 25) rfl (by kernel_rfl) (by kernel_rfl) (by kernel_rfl) rfl (fun _ _ _ h => h) (op_assign rfl) rfl ?_
          refine al_done (by kernel_rfl) ?_
          refine pq_then ?_
          refine cw_ret ?_
          refine pq_ret ?_
          refine ret1 rfl rfl ?_
          -- ret2 h14f h18t h25t h36f
          exact hS.sc_b (by rw [hby, decide_eq_false hne]; simp)
      · skip
        try simp only [decide_eq_true_eq, decide_eq_false_iff_not, Bool.not_eq_true', Bool.not_eq_false', Bool.not_eq_eq_eq_not, Bool.not_true, Bool.not_false] at h25
        refine cw_skip ?_
        refine pq_then ?_
        refine cw_seq ?_
        refine cw_seq ?_
        refine cw_region ?_
        -- r6.0 t57 := fieldAddr [44, 0] t5
        refine ol_pure rfl (op_fieldAddr fld_44_0 rfl) ?_
        -- r6.1 t58 := load [3] t57
        refine ol_load rfl (op_load1 one_3 rfl (fun w hw => (hw.bcell (i := 0) rfl).trans rfl)) hS ?_
        -- r6.2 t59 := neq t58 C-1
        refine ol_pure rfl (op_neq rfl rfl) ?_
        refine ol_nil ?_
        refine pq_then ?_
        refine cw_cond rfl (fun h59 => ?_) (fun h59 => ?_)
        · skip
          try simp only [decide_eq_true_eq, decide_eq_false_iff_not, Bool.not_eq_true', Bool.not_eq_false', Bool.not_eq_eq_eq_not, Bool.not_true, Bool.not_false] at h59
          refine cw_seq ?_
          refine cw_region ?_
          -- r7.0 t6 := assign  Cfalse
          refine ol_pure rfl (op_assign rfl) ?_
          refine ol_nil ?_
          refine pq_then ?_
          refine cw_ret ?_
          refine pq_ret ?_
          refine ret1 rfl rfl ?_
          -- ret3 h14f h18t h25f h59t
          exact hS.sc_b (by first | (rw [stepOk_big (by omega)]) | (rw [stepOk_small (by omega)]))
        · skip
          try simp only [decide_eq_true_eq, decide_eq_false_iff_not, Bool.not_eq_true', Bool.not_eq_false', Bool.not_eq_eq_eq_not, Bool.not_true, Bool.not_false] at h59
          have hm1 : s.rule = -1 := by omega
          have hby := stepOk_byset (rs := rs) (m := m) hm1
          refine cw_skip ?_
          refine pq_then ?_
          refine cw_seq ?_
          refine cw_seq ?_
          refine cw_region ?_
          -- r8.0 t8 := assign  C0
          refine ol_pure rfl (op_assign rfl) ?_
          refine ol_nil ?_
          refine pq_then ?_
          refine cw_block ?_
          refine cw_loop (fun e w n => ∃ k : Nat, e = [(1, .slice oM m.length cM), (3, .pointer (some ⟨b3, 0, none⟩)), (5, .pointer (some ⟨b5, 0, none⟩)), (8, .int .i64 (k : Nat))] ∧ k ≤ rs.length ∧ n = rs.length - k ∧ (rs.take k).all (fun r => !looseB m s.atoms r) = true ∧ SS G w0 G [.blk b5 44 [.int .i64 s.rule, .slice oS s.atoms.length cS], .blk b3 25 [.slice oA atoms.length cA, .slice oR rs.length cR]] w) _ _ (by exact ⟨0, rfl, Nat.zero_le _, rfl, rfl, hS⟩) ((Sub.cons rfl (Sub.cons rfl (Sub.cons rfl (Sub.cons rfl Sub.nil))))) ?_
          clear hS
          rintro e w n ⟨k, rfl, hk, rfl, hpa, hS⟩
          refine cw_seq ?_
          refine cw_seq ?_
          refine cw_region ?_
          -- r9.0 t60 := move  t8
          refine ol_pure rfl (op_move rfl) ?_
          -- r9.1 t61 := fieldAddr [25, 1] t3
          refine ol_pure rfl (op_fieldAddr fld_25_1 rfl) ?_
          -- r9.2 t62 := load [23] t61
          refine ol_load rfl (op_load1 one_23 rfl (fun w hw => (hw.bcell (i := 1) rfl).trans rfl)) hS ?_
          -- r9.3 t63 := call len t62
          refine ol_pure rfl (op_len sl_23 rfl rfl) ?_
          -- r9.4 t64 := lss t60 t63
          refine ol_pure rfl (op_lss rfl rfl) ?_
          refine ol_nil ?_
          refine pq_then ?_
          refine cw_cond rfl (fun h64 => ?_) (fun h64 => ?_)
          · skip
            try simp only [decide_eq_true_eq, decide_eq_false_iff_not, Bool.not_eq_true', Bool.not_eq_false', Bool.not_eq_eq_eq_not, Bool.not_true, Bool.not_false] at h64
            have hlt : k < rs.length := by omega
            have hrk := (hP.rule _ (List.getElem_mem hlt)).1
            obtain ⟨hoa, cs, hcl, ⟨p, q, rfl, hp, hq, hhd⟩, hcells⟩ := h2.el hlt
            obtain ⟨op, cp, hpe, hlp, hmp⟩ := hp.elim
            obtain ⟨oq, cq, hqe, hlq, hmq⟩ := hq.elim
            subst hpe
            subst hqe
            have hple := hp.le
            have hrm : RuleOk m.length rs[k] := by rw [hm]; exact hrk
            refine cw_skip ?_
            refine pq_then ?_
            refine cw_seq ?_
            refine cw_block ?_
            refine cw_seq ?_
            refine cw_region ?_
            -- r11.0 t67 := fieldAddr [25, 1] t3
            refine ol_pure rfl (op_fieldAddr fld_25_1 rfl) ?_
            -- r11.1 t68 := load [23] t67
            refine ol_load rfl (op_load1 one_23 rfl (fun w hw => (hw.bcell (i := 1) rfl).trans rfl)) hS ?_
            -- r11.2 t69 := move  t8
            refine ol_pure rfl (op_move rfl) ?_
            -- r11.3 t70 := indexAddr [23] t68 t69
            refine ol_pure rfl (op_indexN sl_23 rfl rfl (by omega) (by assumption)) ?_
            -- r11.4 t71 := load [48] t70
            refine ol_load rfl (op_loadN agg_48 rfl (by rfl) (fun w hw k u hk => hw.gcell (hcells k u hk))) hS ?_
            -- r11.5 t9 := alloc [48] 
            refine ol_step rfl (op_alloc hS el_48 rfl) ?_
            clear hS
            rintro _ w ⟨b9, rfl, hS⟩
            -- r11.6 _ := store [48] t9 t71
            refine ol_step0  (op_storeN (j := 0) hS sz_48 rfl rfl rfl rfl rfl (by simp [Value.oneCell'])) ?_
            clear hS
            rintro _ w hS; (try simp only [List.nil_append, List.cons_append, List.set] at hS)
            refine ol_nil ?_
            refine pq_then ?_
            refine cw_seq ?_
            refine cw_region ?_
            -- r12.0 t72 := fieldAddr [44, 1] t5
            refine ol_pure rfl (op_fieldAddr fld_44_1 rfl) ?_
            -- r12.1 t73 := load [29] t72
            refine ol_load rfl (op_load1 one_29 rfl (fun w hw => (hw.bcell (i := 1) rfl).trans rfl)) hS ?_
            -- r12.2 t74 := fieldAddr [48, 0] t9
            refine ol_pure rfl (op_fieldAddr fld_48_0 rfl) ?_
            -- r12.3 t75 := load [3] t74
            refine ol_load rfl (op_load1 one_3 rfl (fun w hw => (hw.bcell (i := 0) rfl).trans rfl)) hS ?_
            -- r12.4 t76 := call f55 t73 t75
            refine ol_step rfl (op_call_sc hS cf_55 rfl (R01_In_c G _ hS.hold _ s.atoms rs[k].head h4)) ?_
            clear hS
            rintro _ w ⟨rfl, hS⟩
            -- r12.5 t77 := move  t76
            refine ol_pure rfl (op_move rfl) ?_
            refine ol_split (fun h77 => ?_) (fun h77 => ?_)
            · skip
              try simp only [decide_eq_true_eq, decide_eq_false_iff_not, Bool.not_eq_true', Bool.not_eq_false', Bool.not_eq_eq_eq_not, Bool.not_true, Bool.not_false] at h77
              -- r12.6 t78 := move  t1 ?5=True
              refine ol_guard_pure rfl rfl rfl (op_move rfl) ?_
              -- r12.7 t79 := fieldAddr [48, 1] t9 ?5=True
              refine ol_guard_pure rfl rfl rfl (op_fieldAddr fld_48_1 rfl) ?_
              -- r12.8 t80 := load [29] t79 ?5=True
              refine ol_guard_load rfl rfl rfl (op_load1 one_29 rfl (fun w hw => (hw.bcell (i := 0) rfl).trans rfl)) hS ?_
              -- r12.9 t81 := call f57 t78 t80 C0 ?5=True
              refine ol_guard_step rfl rfl rfl (op_call_sc hS cf_57 rfl (R22_has_c G _ hS.hold _ m h3 _ rs[k].pos 0 hp hrm.2.1)) ?_
              clear hS
              rintro _ w ⟨rfl, hS⟩
              -- r12.10 t82 := not t81 ?5=True
              refine ol_guard_pure rfl rfl rfl (op_not rfl) ?_
              -- r12.11 t83 := pick  t77 t82 Cfalse
              refine ol_pure rfl (op_pick_t rfl rfl) ?_
              -- r12.12 t84 := move  t83
              refine ol_pure rfl (op_move rfl) ?_
              refine ol_split (fun h84 => ?_) (fun h84 => ?_)
              · skip
                try simp only [decide_eq_true_eq, decide_eq_false_iff_not, Bool.not_eq_true', Bool.not_eq_false', Bool.not_eq_eq_eq_not, Bool.not_true, Bool.not_false] at h84
                -- r12.13 t85 := move  t1 ?12=True
                refine ol_guard_pure rfl rfl rfl (op_move rfl) ?_
                -- r12.14 t86 := fieldAddr [48, 2] t9 ?12=True
                refine ol_guard_pure rfl rfl rfl (op_fieldAddr fld_48_2 rfl) ?_
                -- r12.15 t87 := load [29] t86 ?12=True
                refine ol_guard_load rfl rfl rfl (op_load1 one_29 rfl (fun w hw => (hw.bcell (i := 0) rfl).trans rfl)) hS ?_
                -- r12.16 t88 := call f57 t85 t87 C2 ?12=True
                refine ol_guard_step rfl rfl rfl (op_call_sc hS cf_57 rfl (R22_has_c G _ hS.hold _ m h3 _ rs[k].neg 2 hq hrm.2.2)) ?_
                clear hS
                rintro _ w ⟨rfl, hS⟩
                -- r12.17 t89 := not t88 ?12=True
                refine ol_guard_pure rfl rfl rfl (op_not rfl) ?_
                -- r12.18 t90 := pick  t84 t89 Cfalse
                refine ol_pure rfl (op_pick_t rfl rfl) ?_
                -- r12.19 t91 := move  t90
                refine ol_pure rfl (op_move rfl) ?_
                refine ol_split (fun h91 => ?_) (fun h91 => ?_)
                · skip
                  try simp only [decide_eq_true_eq, decide_eq_false_iff_not, Bool.not_eq_true', Bool.not_eq_false', Bool.not_eq_eq_eq_not, Bool.not_true, Bool.not_false] at h91
                  -- r12.20 t92 := fieldAddr [48, 1] t9 ?19=True
                  refine ol_guard_pure rfl rfl rfl (op_fieldAddr fld_48_1 rfl) ?_
                  -- r12.21 t93 := load [29] t92 ?19=True
                  refine ol_guard_load rfl rfl rfl (op_load1 one_29 rfl (fun w hw => (hw.bcell (i := 0) rfl).trans rfl)) hS ?_
                  -- r12.22 t94 := fieldAddr [44, 1] t5 ?19=True
                  refine ol_guard_pure rfl rfl rfl (op_fieldAddr fld_44_1 rfl) ?_
                  -- r12.23 t95 := load [29] t94 ?19=True
                  refine ol_guard_load rfl rfl rfl (op_load1 one_29 rfl (fun w hw => (hw.bcell (i := 1) rfl).trans rfl)) hS ?_
                  -- r12.24 t96 := call f59 t93 t95 ?19=True
                  refine ol_guard_step rfl rfl rfl (op_call_sc hS cf_59 rfl (R22_meet_c G _ hS.hold _ _ rs[k].pos s.atoms hp h4)) ?_
                  clear hS
                  rintro _ w ⟨rfl, hS⟩
                  -- r12.25 t97 := not t96 ?19=True
                  refine ol_guard_pure rfl rfl rfl (op_not rfl) ?_
                  -- r12.26 t98 := pick  t91 t97 Cfalse
                  refine ol_pure rfl (op_pick_t rfl rfl) ?_
                  refine ol_nil ?_
                  refine pq_then ?_
                  refine cw_cond rfl (fun h98 => ?_) (fun h98 => ?_)
                  · skip
                    try simp only [decide_eq_true_eq, decide_eq_false_iff_not, Bool.not_eq_true', Bool.not_eq_false', Bool.not_eq_eq_eq_not, Bool.not_true, Bool.not_false] at h98
                    refine cw_seq ?_
                    refine cw_region ?_
                    -- r13.0 t6 := assign  Cfalse
                    refine ol_pure rfl (op_assign rfl) ?_
                    refine ol_nil ?_
                    refine pq_then ?_
                    refine cw_ret ?_
                    refine pq_in_ret ?_
                    refine pq_ret ?_
                    refine pq_ret ?_
                    refine pq_in_ret ?_
                    refine pq_ret ?_
                    refine ret1 rfl rfl ?_
                    -- ret4 h14f h18t h25f h59f h64t h77t h84t h91t h98t
                    exact hS.sc_b (by rw [hby, unfOk, Pl.all_false_at (fun r => !looseB m s.atoms r) _ _ hlt (by unfold looseB; simp_all)]; simp)
                  · skip
                    try simp only [decide_eq_true_eq, decide_eq_false_iff_not, Bool.not_eq_true', Bool.not_eq_false', Bool.not_eq_eq_eq_not, Bool.not_true, Bool.not_false] at h98
                    refine cw_skip ?_
                    refine pq_in_normal ?_
                    refine pq_then ?_
                    refine cw_region ?_
                    -- r10.0 t65 := move  t8
                    refine ol_pure rfl (op_move rfl) ?_
                    -- r10.1 t66 := add t65 C1
                    refine ol_pure rfl (op_add rfl rfl (by omega) (by omega)) ?_
                    -- r10.2 t8 := assign  t66
                    refine ol_pure rfl (op_assign rfl) ?_
                    refine ol_nil ?_
                    -- end of round 1 h14f h18t h25f h59f h64t h77t h84t h91t h98f
                    refine pq_loop _ _ (by exact (by
                        replace hS := SS.drop [] hS
                        exact ⟨k + 1, rfl, by omega, rfl, by rw [Pl.all_take_succ (fun r => !looseB m s.atoms r) _ _ hlt, hpa]; unfold looseB; simp_all, hS⟩)) ((Sub.cons rfl (Sub.cons rfl (Sub.cons rfl (Sub.cons rfl Sub.nil))))) (by omega)
                · skip
                  try simp only [decide_eq_true_eq, decide_eq_false_iff_not, Bool.not_eq_true', Bool.not_eq_false', Bool.not_eq_eq_eq_not, Bool.not_true, Bool.not_false] at h91
                  refine ol_guard_no rfl rfl rfl rfl ?_
                  refine ol_guard_no rfl rfl rfl rfl ?_
                  refine ol_guard_no rfl rfl rfl rfl ?_
                  refine ol_guard_no rfl rfl rfl rfl ?_
                  refine ol_guard_no rfl rfl rfl rfl ?_
                  refine ol_guard_no rfl rfl rfl rfl ?_
                  -- r12.26 t98 := pick  t91 t97 Cfalse
                  refine ol_pure rfl (op_pick_f rfl rfl) ?_
                  refine ol_nil ?_
                  refine pq_then ?_
                  refine cw_cond_f rfl ?_
                  refine cw_skip ?_
                  refine pq_in_normal ?_
                  refine pq_then ?_
                  refine cw_region ?_
                  -- r10.0 t65 := move  t8
                  refine ol_pure rfl (op_move rfl) ?_
                  -- r10.1 t66 := add t65 C1
                  refine ol_pure rfl (op_add rfl rfl (by omega) (by omega)) ?_
                  -- r10.2 t8 := assign  t66
                  refine ol_pure rfl (op_assign rfl) ?_
                  refine ol_nil ?_
                  -- end of round 1 h14f h18t h25f h59f h64t h77t h84t h91f
                  refine pq_loop _ _ (by exact (by
                      replace hS := SS.drop [] hS
                      exact ⟨k + 1, rfl, by omega, rfl, by rw [Pl.all_take_succ (fun r => !looseB m s.atoms r) _ _ hlt, hpa]; unfold looseB; simp_all, hS⟩)) ((Sub.cons rfl (Sub.cons rfl (Sub.cons rfl (Sub.cons rfl Sub.nil))))) (by omega)
              · skip
                try simp only [decide_eq_true_eq, decide_eq_false_iff_not, Bool.not_eq_true', Bool.not_eq_false', Bool.not_eq_eq_eq_not, Bool.not_true, Bool.not_false] at h84
                refine ol_guard_no rfl rfl rfl rfl ?_
                refine ol_guard_no rfl rfl rfl rfl ?_
                refine ol_guard_no rfl rfl rfl rfl ?_
                refine ol_guard_no rfl rfl rfl rfl ?_
                refine ol_guard_no rfl rfl rfl rfl ?_
                -- r12.18 t90 := pick  t84 t89 Cfalse
                refine ol_pure rfl (op_pick_f rfl rfl) ?_
                -- r12.19 t91 := move  t90
                refine ol_pure rfl (op_move rfl) ?_
                refine ol_guard_no rfl rfl rfl rfl ?_
                refine ol_guard_no rfl rfl rfl rfl ?_
                refine ol_guard_no rfl rfl rfl rfl ?_
                refine ol_guard_no rfl rfl rfl rfl ?_
                refine ol_guard_no rfl rfl rfl rfl ?_
                refine ol_guard_no rfl rfl rfl rfl ?_
                -- r12.26 t98 := pick  t91 t97 Cfalse
                refine ol_pure rfl (op_pick_f rfl rfl) ?_
                refine ol_nil ?_
                refine pq_then ?_
                refine cw_cond_f rfl ?_
                refine cw_skip ?_
                refine pq_in_normal ?_
                refine pq_then ?_
                refine cw_region ?_
                -- r10.0 t65 := move  t8
                refine ol_pure rfl (op_move rfl) ?_
                -- r10.1 t66 := add t65 C1
                refine ol_pure rfl (op_add rfl rfl (by omega) (by omega)) ?_
                -- r10.2 t8 := assign  t66
                refine ol_pure rfl (op_assign rfl) ?_
                refine ol_nil ?_
                -- end of round 1 h14f h18t h25f h59f h64t h77t h84f
                refine pq_loop _ _ (by exact (by
                    replace hS := SS.drop [] hS
                    exact ⟨k + 1, rfl, by omega, rfl, by rw [Pl.all_take_succ (fun r => !looseB m s.atoms r) _ _ hlt, hpa]; unfold looseB; simp_all, hS⟩)) ((Sub.cons rfl (Sub.cons rfl (Sub.cons rfl (Sub.cons rfl Sub.nil))))) (by omega)
            · skip
              try simp only [decide_eq_true_eq, decide_eq_false_iff_not, Bool.not_eq_true', Bool.not_eq_false', Bool.not_eq_eq_eq_not, Bool.not_true, Bool.not_false] at h77
              refine ol_guard_no rfl rfl rfl rfl ?_
              refine ol_guard_no rfl rfl rfl rfl ?_
              refine ol_guard_no rfl rfl rfl rfl ?_
              refine ol_guard_no rfl rfl rfl rfl ?_
              refine ol_guard_no rfl rfl rfl rfl ?_
              -- r12.11 t83 := pick  t77 t82 Cfalse
              refine ol_pure rfl (op_pick_f rfl rfl) ?_
              -- r12.12 t84 := move  t83
              refine ol_pure rfl (op_move rfl) ?_
              refine ol_guard_no rfl rfl rfl rfl ?_
              refine ol_guard_no rfl rfl rfl rfl ?_
              refine ol_guard_no rfl rfl rfl rfl ?_
              refine ol_guard_no rfl rfl rfl rfl ?_
              refine ol_guard_no rfl rfl rfl rfl ?_
              -- r12.18 t90 := pick  t84 t89 Cfalse
              refine ol_pure rfl (op_pick_f rfl rfl) ?_
              -- r12.19 t91 := move  t90
              refine ol_pure rfl (op_move rfl) ?_
              refine ol_guard_no rfl rfl rfl rfl ?_
              refine ol_guard_no rfl rfl rfl rfl ?_
              refine ol_guard_no rfl rfl rfl rfl ?_
              refine ol_guard_no rfl rfl rfl rfl ?_
              refine ol_guard_no rfl rfl rfl rfl ?_
              refine ol_guard_no rfl rfl rfl rfl ?_
              -- r12.26 t98 := pick  t91 t97 Cfalse
              refine ol_pure rfl (op_pick_f rfl rfl) ?_
              refine ol_nil ?_
              refine pq_then ?_
              refine cw_cond_f rfl ?_
              refine cw_skip ?_
              refine pq_in_normal ?_
              refine pq_then ?_
              refine cw_region ?_
              -- r10.0 t65 := move  t8
              refine ol_pure rfl (op_move rfl) ?_
              -- r10.1 t66 := add t65 C1
              refine ol_pure rfl (op_add rfl rfl (by omega) (by omega)) ?_
              -- r10.2 t8 := assign  t66
              refine ol_pure rfl (op_assign rfl) ?_
              refine ol_nil ?_
              -- end of round 1 h14f h18t h25f h59f h64t h77f
              refine pq_loop _ _ (by exact (by
                  replace hS := SS.drop [] hS
                  exact ⟨k + 1, rfl, by omega, rfl, by rw [Pl.all_take_succ (fun r => !looseB m s.atoms r) _ _ hlt, hpa]; unfold looseB; simp_all, hS⟩)) ((Sub.cons rfl (Sub.cons rfl (Sub.cons rfl (Sub.cons rfl Sub.nil))))) (by omega)
          · skip
            try simp only [decide_eq_true_eq, decide_eq_false_iff_not, Bool.not_eq_true', Bool.not_eq_false', Bool.not_eq_eq_eq_not, Bool.not_true, Bool.not_false] at h64
            refine cw_exit ?_
            refine pq_exit ?_
            refine pq_exit ?_
            refine pq_in_exit ?_
            refine pq_then ?_
            refine cw_seq ?_
            refine cw_region ?_
            -- r14.0 t6 := assign  Ctrue
            refine ol_pure rfl (op_assign rfl) ?_
            refine ol_nil ?_
            refine pq_then ?_
            refine cw_ret ?_
            refine ret1 rfl rfl ?_
            -- ret5 h14f h18t h25f h59f h64f
            exact hS.sc_b (by rw [hby, unfOk, Pl.all_of_take (fun r => !looseB m s.atoms r) _ _ (by omega) hpa]; simp_all)
    · skip
      try simp only [decide_eq_true_eq, decide_eq_false_iff_not, Bool.not_eq_true', Bool.not_eq_false', Bool.not_eq_eq_eq_not, Bool.not_true, Bool.not_false] at h18
      refine ol_guard_no rfl rfl rfl rfl ?_
      refine ol_guard_no rfl rfl rfl rfl ?_
      refine ol_guard_no rfl rfl rfl rfl ?_
      refine ol_guard_no rfl rfl rfl rfl ?_
      refine ol_guard_no rfl rfl rfl rfl ?_
      refine ol_guard_no rfl rfl rfl rfl ?_
      -- r3.10 t25 := pick  t18 t24 Cfalse
      refine ol_pure rfl (op_pick_f rfl rfl) ?_
      refine ol_nil ?_
      refine pq_then ?_
      refine cw_cond_f rfl ?_
      refine cw_skip ?_
      refine pq_then ?_
      refine cw_seq ?_
      refine cw_seq ?_
      refine cw_region ?_
      -- r6.0 t57 := fieldAddr [44, 0] t5
      refine ol_pure rfl (op_fieldAddr fld_44_0 rfl) ?_
      -- r6.1 t58 := load [3] t57
      refine ol_load rfl (op_load1 one_3 rfl (fun w hw => (hw.bcell (i := 0) rfl).trans rfl)) hS ?_
      -- r6.2 t59 := neq t58 C-1
      refine ol_pure rfl (op_neq rfl rfl) ?_
      refine ol_nil ?_
      refine pq_then ?_
      refine cw_cond rfl (fun h59 => ?_) (fun h59 => ?_)
      · skip
        try simp only [decide_eq_true_eq, decide_eq_false_iff_not, Bool.not_eq_true', Bool.not_eq_false', Bool.not_eq_eq_eq_not, Bool.not_true, Bool.not_false] at h59
        refine cw_seq ?_
        refine cw_region ?_
        -- r7.0 t6 := assign  Cfalse
        refine ol_pure rfl (op_assign rfl) ?_
        refine ol_nil ?_
        refine pq_then ?_
        refine cw_ret ?_
        refine pq_ret ?_
        refine ret1 rfl rfl ?_
        -- ret3 h14f h18f h59t
        exact hS.sc_b (by first | (rw [stepOk_big (by omega)]) | (rw [stepOk_small (by omega)]))
      · skip
        try simp only [decide_eq_true_eq, decide_eq_false_iff_not, Bool.not_eq_true', Bool.not_eq_false', Bool.not_eq_eq_eq_not, Bool.not_true, Bool.not_false] at h59
        have hm1 : s.rule = -1 := by omega
        have hby := stepOk_byset (rs := rs) (m := m) hm1
        refine cw_skip ?_
        refine pq_then ?_
        refine cw_seq ?_
        refine cw_seq ?_
        refine cw_region ?_
        -- r8.0 t8 := assign  C0
        refine ol_pure rfl (op_assign rfl) ?_
        refine ol_nil ?_
        refine pq_then ?_
        refine cw_block ?_
        refine cw_loop (fun e w n => ∃ k : Nat, e = [(1, .slice oM m.length cM), (3, .pointer (some ⟨b3, 0, none⟩)), (5, .pointer (some ⟨b5, 0, none⟩)), (8, .int .i64 (k : Nat))] ∧ k ≤ rs.length ∧ n = rs.length - k ∧ (rs.take k).all (fun r => !looseB m s.atoms r) = true ∧ SS G w0 G [.blk b5 44 [.int .i64 s.rule, .slice oS s.atoms.length cS], .blk b3 25 [.slice oA atoms.length cA, .slice oR rs.length cR]] w) _ _ (by exact ⟨0, rfl, Nat.zero_le _, rfl, rfl, hS⟩) ((Sub.cons rfl (Sub.cons rfl (Sub.cons rfl (Sub.cons rfl Sub.nil))))) ?_
        clear hS
        rintro e w n ⟨k, rfl, hk, rfl, hpa, hS⟩
        refine cw_seq ?_
        refine cw_seq ?_
        refine cw_region ?_
        -- r9.0 t60 := move  t8
        refine ol_pure rfl (op_move rfl) ?_
        -- r9.1 t61 := fieldAddr [25, 1] t3
        refine ol_pure rfl (op_fieldAddr fld_25_1 rfl) ?_
        -- r9.2 t62 := load [23] t61
        refine ol_load rfl (op_load1 one_23 rfl (fun w hw => (hw.bcell (i := 1) rfl).trans rfl)) hS ?_
        -- r9.3 t63 := call len t62
        refine ol_pure rfl (op_len sl_23 rfl rfl) ?_
        -- r9.4 t64 := lss t60 t63
        refine ol_pure rfl (op_lss rfl rfl) ?_
        refine ol_nil ?_
        refine pq_then ?_
        refine cw_cond rfl (fun h64 => ?_) (fun h64 => ?_)
        · skip
          try simp only [decide_eq_true_eq, decide_eq_false_iff_not, Bool.not_eq_true', Bool.not_eq_false', Bool.not_eq_eq_eq_not, Bool.not_true, Bool.not_false] at h64
          have hlt : k < rs.length := by omega
          have hrk := (hP.rule _ (List.getElem_mem hlt)).1
          obtain ⟨hoa, cs, hcl, ⟨p, q, rfl, hp, hq, hhd⟩, hcells⟩ := h2.el hlt
          obtain ⟨op, cp, hpe, hlp, hmp⟩ := hp.elim
          obtain ⟨oq, cq, hqe, hlq, hmq⟩ := hq.elim
          subst hpe
          subst hqe
          have hple := hp.le
          have hrm : RuleOk m.length rs[k] := by rw [hm]; exact hrk
          refine cw_skip ?_
          refine pq_then ?_
          refine cw_seq ?_
          refine cw_block ?_
          refine cw_seq ?_
          refine cw_region ?_
          -- r11.0 t67 := fieldAddr [25, 1] t3
          refine ol_pure rfl (op_fieldAddr fld_25_1 rfl) ?_
          -- r11.1 t68 := load [23] t67
          refine ol_load rfl (op_load1 one_23 rfl (fun w hw => (hw.bcell (i := 1) rfl).trans rfl)) hS ?_
          -- r11.2 t69 := move  t8
          refine ol_pure rfl (op_move rfl) ?_
          -- r11.3 t70 := indexAddr [23] t68 t69
          refine ol_pure rfl (op_indexN sl_23 rfl rfl (by omega) (by assumption)) ?_
          -- r11.4 t71 := load [48] t70
          refine ol_load rfl (op_loadN agg_48 rfl (by rfl) (fun w hw k u hk => hw.gcell (hcells k u hk))) hS ?_
          -- r11.5 t9 := alloc [48] 
          refine ol_step rfl (op_alloc hS el_48 rfl) ?_
          clear hS
          rintro _ w ⟨b9, rfl, hS⟩
          -- r11.6 _ := store [48] t9 t71
          refine ol_step0  (op_storeN (j := 0) hS sz_48 rfl rfl rfl rfl rfl (by simp [Value.oneCell'])) ?_
          clear hS
          rintro _ w hS; (try simp only [List.nil_append, List.cons_append, List.set] at hS)
          refine ol_nil ?_
          refine pq_then ?_
          refine cw_seq ?_
          refine cw_region ?_
          -- r12.0 t72 := fieldAddr [44, 1] t5
          refine ol_pure rfl (op_fieldAddr fld_44_1 rfl) ?_
          -- r12.1 t73 := load [29] t72
          refine ol_load rfl (op_load1 one_29 rfl (fun w hw => (hw.bcell (i := 1) rfl).trans rfl)) hS ?_
          -- r12.2 t74 := fieldAddr [48, 0] t9
          refine ol_pure rfl (op_fieldAddr fld_48_0 rfl) ?_
          -- r12.3 t75 := load [3] t74
          refine ol_load rfl (op_load1 one_3 rfl (fun w hw => (hw.bcell (i := 0) rfl).trans rfl)) hS ?_
          -- r12.4 t76 := call f55 t73 t75
          refine ol_step rfl (op_call_sc hS cf_55 rfl (R01_In_c G _ hS.hold _ s.atoms rs[k].head h4)) ?_
          clear hS
          rintro _ w ⟨rfl, hS⟩
          -- r12.5 t77 := move  t76
          refine ol_pure rfl (op_move rfl) ?_
          refine ol_split (fun h77 => ?_) (fun h77 => ?_)
          · skip
            try simp only [decide_eq_true_eq, decide_eq_false_iff_not, Bool.not_eq_true', Bool.not_eq_false', Bool.not_eq_eq_eq_not, Bool.not_true, Bool.not_false] at h77
            -- r12.6 t78 := move  t1 ?5=True
            refine ol_guard_pure rfl rfl rfl (op_move rfl) ?_
            -- r12.7 t79 := fieldAddr [48, 1] t9 ?5=True
            refine ol_guard_pure rfl rfl rfl (op_fieldAddr fld_48_1 rfl) ?_
            -- r12.8 t80 := load [29] t79 ?5=True
            refine ol_guard_load rfl rfl rfl (op_load1 one_29 rfl (fun w hw => (hw.bcell (i := 0) rfl).trans rfl)) hS ?_
            -- r12.9 t81 := call f57 t78 t80 C0 ?5=True
            refine ol_guard_step rfl rfl rfl (op_call_sc hS cf_57 rfl (R22_has_c G _ hS.hold _ m h3 _ rs[k].pos 0 hp hrm.2.1)) ?_
            clear hS
            rintro _ w ⟨rfl, hS⟩
            -- r12.10 t82 := not t81 ?5=True
            refine ol_guard_pure rfl rfl rfl (op_not rfl) ?_
            -- r12.11 t83 := pick  t77 t82 Cfalse
            refine ol_pure rfl (op_pick_t rfl rfl) ?_
            -- r12.12 t84 := move  t83
            refine ol_pure rfl (op_move rfl) ?_
            refine ol_split (fun h84 => ?_) (fun h84 => ?_)
            · skip
              try simp only [decide_eq_true_eq, decide_eq_false_iff_not, Bool.not_eq_true', Bool.not_eq_false', Bool.not_eq_eq_eq_not, Bool.not_true, Bool.not_false] at h84
              -- r12.13 t85 := move  t1 ?12=True
              refine ol_guard_pure rfl rfl rfl (op_move rfl) ?_
              -- r12.14 t86 := fieldAddr [48, 2] t9 ?12=True
              refine ol_guard_pure rfl rfl rfl (op_fieldAddr fld_48_2 rfl) ?_
              -- r12.15 t87 := load [29] t86 ?12=True
              refine ol_guard_load rfl rfl rfl (op_load1 one_29 rfl (fun w hw => (hw.bcell (i := 0) rfl).trans rfl)) hS ?_
              -- r12.16 t88 := call f57 t85 t87 C2 ?12=True
              refine ol_guard_step rfl rfl rfl (op_call_sc hS cf_57 rfl (R22_has_c G _ hS.hold _ m h3 _ rs[k].neg 2 hq hrm.2.2)) ?_
              clear hS
              rintro _ w ⟨rfl, hS⟩
              -- r12.17 t89 := not t88 ?12=True
              refine ol_guard_pure rfl rfl rfl (op_not rfl) ?_
              -- r12.18 t90 := pick  t84 t89 Cfalse
              refine ol_pure rfl (op_pick_t rfl rfl) ?_
              -- r12.19 t91 := move  t90
              refine ol_pure rfl (op_move rfl) ?_
              refine ol_split (fun h91 => ?_) (fun h91 => ?_)
              · skip
                try simp only [decide_eq_true_eq, decide_eq_false_iff_not, Bool.not_eq_true', Bool.not_eq_false', Bool.not_eq_eq_eq_not, Bool.not_true, Bool.not_false] at h91
                -- r12.20 t92 := fieldAddr [48, 1] t9 ?19=True
                refine ol_guard_pure rfl rfl rfl (op_fieldAddr fld_48_1 rfl) ?_
                -- r12.21 t93 := load [29] t92 ?19=True
                refine ol_guard_load rfl rfl rfl (op_load1 one_29 rfl (fun w hw => (hw.bcell (i := 0) rfl).trans rfl)) hS ?_
                -- r12.22 t94 := fieldAddr [44, 1] t5 ?19=True
                refine ol_guard_pure rfl rfl rfl (op_fieldAddr fld_44_1 rfl) ?_
                -- r12.23 t95 := load [29] t94 ?19=True
                refine ol_guard_load rfl rfl rfl (op_load1 one_29 rfl (fun w hw => (hw.bcell (i := 1) rfl).trans rfl)) hS ?_
                -- r12.24 t96 := call f59 t93 t95 ?19=True
                refine ol_guard_step rfl rfl rfl (op_call_sc hS cf_59 rfl (R22_meet_c G _ hS.hold _ _ rs[k].pos s.atoms hp h4)) ?_
                clear hS
                rintro _ w ⟨rfl, hS⟩
                -- r12.25 t97 := not t96 ?19=True
                refine ol_guard_pure rfl rfl rfl (op_not rfl) ?_
                -- r12.26 t98 := pick  t91 t97 Cfalse
                refine ol_pure rfl (op_pick_t rfl rfl) ?_
                refine ol_nil ?_
                refine pq_then ?_
                refine cw_cond rfl (fun h98 => ?_) (fun h98 => ?_)
                · skip
                  try simp only [decide_eq_true_eq, decide_eq_false_iff_not, Bool.not_eq_true', Bool.not_eq_false', Bool.not_eq_eq_eq_not, Bool.not_true, Bool.not_false] at h98
                  refine cw_seq ?_
                  refine cw_region ?_
                  -- r13.0 t6 := assign  Cfalse
                  refine ol_pure rfl (op_assign rfl) ?_
                  refine ol_nil ?_
                  refine pq_then ?_
                  refine cw_ret ?_
                  refine pq_in_ret ?_
                  refine pq_ret ?_
                  refine pq_ret ?_
                  refine pq_in_ret ?_
                  refine pq_ret ?_
                  refine ret1 rfl rfl ?_
                  -- ret4 h14f h18f h59f h64t h77t h84t h91t h98t
                  exact hS.sc_b (by rw [hby, unfOk, Pl.all_false_at (fun r => !looseB m s.atoms r) _ _ hlt (by unfold looseB; simp_all)]; simp)
                · skip
                  try simp only [decide_eq_true_eq, decide_eq_false_iff_not, Bool.not_eq_true', Bool.not_eq_false', Bool.not_eq_eq_eq_not, Bool.not_true, Bool.not_false] at h98
                  refine cw_skip ?_
                  refine pq_in_normal ?_
                  refine pq_then ?_
                  refine cw_region ?_
                  -- r10.0 t65 := move  t8
                  refine ol_pure rfl (op_move rfl) ?_
                  -- r10.1 t66 := add t65 C1
                  refine ol_pure rfl (op_add rfl rfl (by omega) (by omega)) ?_
                  -- r10.2 t8 := assign  t66
                  refine ol_pure rfl (op_assign rfl) ?_
                  refine ol_nil ?_
                  -- end of round 1 h14f h18f h59f h64t h77t h84t h91t h98f
                  refine pq_loop _ _ (by exact (by
                      replace hS := SS.drop [] hS
                      exact ⟨k + 1, rfl, by omega, rfl, by rw [Pl.all_take_succ (fun r => !looseB m s.atoms r) _ _ hlt, hpa]; unfold looseB; simp_all, hS⟩)) ((Sub.cons rfl (Sub.cons rfl (Sub.cons rfl (Sub.cons rfl Sub.nil))))) (by omega)
              · skip
                try simp only [decide_eq_true_eq, decide_eq_false_iff_not, Bool.not_eq_true', Bool.not_eq_false', Bool.not_eq_eq_eq_not, Bool.not_true, Bool.not_false] at h91
                refine ol_guard_no rfl rfl rfl rfl ?_
                refine ol_guard_no rfl rfl rfl rfl ?_
                refine ol_guard_no rfl rfl rfl rfl ?_
                refine ol_guard_no rfl rfl rfl rfl ?_
                refine ol_guard_no rfl rfl rfl rfl ?_
                refine ol_guard_no rfl rfl rfl rfl ?_
                -- r12.26 t98 := pick  t91 t97 Cfalse
                refine ol_pure rfl (op_pick_f rfl rfl) ?_
                refine ol_nil ?_
                refine pq_then ?_
                refine cw_cond_f rfl ?_
                refine cw_skip ?_
                refine pq_in_normal ?_
                refine pq_then ?_
                refine cw_region ?_
                -- r10.0 t65 := move  t8
                refine ol_pure rfl (op_move rfl) ?_
                -- r10.1 t66 := add t65 C1
                refine ol_pure rfl (op_add rfl rfl (by omega) (by omega)) ?_
                -- r10.2 t8 := assign  t66
                refine ol_pure rfl (op_assign rfl) ?_
                refine ol_nil ?_
                -- end of round 1 h14f h18f h59f h64t h77t h84t h91f
                refine pq_loop _ _ (by exact (by
                    replace hS := SS.drop [] hS
                    exact ⟨k + 1, rfl, by omega, rfl, by rw [Pl.all_take_succ (fun r => !looseB m s.atoms r) _ _ hlt, hpa]; unfold looseB; simp_all, hS⟩)) ((Sub.cons rfl (Sub.cons rfl (Sub.cons rfl (Sub.cons rfl Sub.nil))))) (by omega)
            · skip
              try simp only [decide_eq_true_eq, decide_eq_false_iff_not, Bool.not_eq_true', Bool.not_eq_false', Bool.not_eq_eq_eq_not, Bool.not_true, Bool.not_false] at h84
              refine ol_guard_no rfl rfl rfl rfl ?_
              refine ol_guard_no rfl rfl rfl rfl ?_
              refine ol_guard_no rfl rfl rfl rfl ?_
              refine ol_guard_no rfl rfl rfl rfl ?_
              refine ol_guard_no rfl rfl rfl rfl ?_
              -- r12.18 t90 := pick  t84 t89 Cfalse
              refine ol_pure rfl (op_pick_f rfl rfl) ?_
              -- r12.19 t91 := move  t90
              refine ol_pure rfl (op_move rfl) ?_
              refine ol_guard_no rfl rfl rfl rfl ?_
              refine ol_guard_no rfl rfl rfl rfl ?_
              refine ol_guard_no rfl rfl rfl rfl ?_
              refine ol_guard_no rfl rfl rfl rfl ?_
              refine ol_guard_no rfl rfl rfl rfl ?_
              refine ol_guard_no rfl rfl rfl rfl ?_
              -- r12.26 t98 := pick  t91 t97 Cfalse
              refine ol_pure rfl (op_pick_f rfl rfl) ?_
              refine ol_nil ?_
              refine pq_then ?_
              refine cw_cond_f rfl ?_
              refine cw_skip ?_
              refine pq_in_normal ?_
              refine pq_then ?_
              refine cw_region ?_
              -- r10.0 t65 := move  t8
              refine ol_pure rfl (op_move rfl) ?_
              -- r10.1 t66 := add t65 C1
              refine ol_pure rfl (op_add rfl rfl (by omega) (by omega)) ?_
              -- r10.2 t8 := assign  t66
              refine ol_pure rfl (op_assign rfl) ?_
              refine ol_nil ?_
              -- end of round 1 h14f h18f h59f h64t h77t h84f
              refine pq_loop _ _ (by exact (by
                  replace hS := SS.drop [] hS
                  exact ⟨k + 1, rfl, by omega, rfl, by rw [Pl.all_take_succ (fun r => !looseB m s.atoms r) _ _ hlt, hpa]; unfold looseB; simp_all, hS⟩)) ((Sub.cons rfl (Sub.cons rfl (Sub.cons rfl (Sub.cons rfl Sub.nil))))) (by omega)
          · skip
            try simp only [decide_eq_true_eq, decide_eq_false_iff_not, Bool.not_eq_true', Bool.not_eq_false', Bool.not_eq_eq_eq_not, Bool.not_true, Bool.not_false] at h77
            refine ol_guard_no rfl rfl rfl rfl ?_
            refine ol_guard_no rfl rfl rfl rfl ?_
            refine ol_guard_no rfl rfl rfl rfl ?_
            refine ol_guard_no rfl rfl rfl rfl ?_
            refine ol_guard_no rfl rfl rfl rfl ?_
            -- r12.11 t83 := pick  t77 t82 Cfalse
            refine ol_pure rfl (op_pick_f rfl rfl) ?_
            -- r12.12 t84 := move  t83
            refine ol_pure rfl (op_move rfl) ?_
            refine ol_guard_no rfl rfl rfl rfl ?_
            refine ol_guard_no rfl rfl rfl rfl ?_
            refine ol_guard_no rfl rfl rfl rfl ?_
            refine ol_guard_no rfl rfl rfl rfl ?_
            refine ol_guard_no rfl rfl rfl rfl ?_
            -- r12.18 t90 := pick  t84 t89 Cfalse
            refine ol_pure rfl (op_pick_f rfl rfl) ?_
            -- r12.19 t91 := move  t90
            refine ol_pure rfl (op_move rfl) ?_
            refine ol_guard_no rfl rfl rfl rfl ?_
            refine ol_guard_no rfl rfl rfl rfl ?_
            refine ol_guard_no rfl rfl rfl rfl ?_
            refine ol_guard_no rfl rfl rfl rfl ?_
            refine ol_guard_no rfl rfl rfl rfl ?_
            refine ol_guard_no rfl rfl rfl rfl ?_
            -- r12.26 t98 := pick  t91 t97 Cfalse
            refine ol_pure rfl (op_pick_f rfl rfl) ?_
            refine ol_nil ?_
            refine pq_then ?_
            refine cw_cond_f rfl ?_
            refine cw_skip ?_
            refine pq_in_normal ?_
            refine pq_then ?_
            refine cw_region ?_
            -- r10.0 t65 := move  t8
            refine ol_pure rfl (op_move rfl) ?_
            -- r10.1 t66 := add t65 C1
            refine ol_pure rfl (op_add rfl rfl (by omega) (by omega)) ?_
            -- r10.2 t8 := assign  t66
            refine ol_pure rfl (op_assign rfl) ?_
            refine ol_nil ?_
            -- end of round 1 h14f h18f h59f h64t h77f
            refine pq_loop _ _ (by exact (by
                replace hS := SS.drop [] hS
                exact ⟨k + 1, rfl, by omega, rfl, by rw [Pl.all_take_succ (fun r => !looseB m s.atoms r) _ _ hlt, hpa]; unfold looseB; simp_all, hS⟩)) ((Sub.cons rfl (Sub.cons rfl (Sub.cons rfl (Sub.cons rfl Sub.nil))))) (by omega)
        · skip
          try simp only [decide_eq_true_eq, decide_eq_false_iff_not, Bool.not_eq_true', Bool.not_eq_false', Bool.not_eq_eq_eq_not, Bool.not_true, Bool.not_false] at h64
          refine cw_exit ?_
          refine pq_exit ?_
          refine pq_exit ?_
          refine pq_in_exit ?_
          refine pq_then ?_
          refine cw_seq ?_
          refine cw_region ?_
          -- r14.0 t6 := assign  Ctrue
          refine ol_pure rfl (op_assign rfl) ?_
          refine ol_nil ?_
          refine pq_then ?_
          refine cw_ret ?_
          refine ret1 rfl rfl ?_
          -- ret5 h14f h18f h59f h64f
          exact hS.sc_b (by rw [hby, unfOk, Pl.all_of_take (fun r => !looseB m s.atoms r) _ _ (by omega) hpa]; simp_all)
set_option maxRecDepth 100000 in
set_option maxHeartbeats 1000000 in

theorem R22_tell_c (G : GH) (w0 : World) (hG : Holds G w0) (vm : Value) (m : List Int) (h3 : RSl 1 EInt G vm m) (s : Step) (u : Value) (h4 : RSl 1 EInt G u s.atoms) (hsb : -9223372036854775808 ≤ s.rule ∧ s.rule ≤ 9223372036854775807) (hmb : ∀ x ∈ m, 0 ≤ x ∧ x ≤ 2) (hmn : m.length ≤ 1000) (hin : ∀ a ∈ s.atoms, 0 ≤ a ∧ a < m.length) :
    Calls Try.prog 39 #[vm, .agg #[.int .i64 s.rule, u]] w0 (Rt noG w0 (fun G v => RSl 1 EInt G v (tellI m s))) := by
  obtain ⟨oM, cM, rfl, hlM, hmM⟩ := h3.elim
  obtain ⟨oS, cS, rfl, hlS, hmS⟩ := h4.elim
  have hSle := h4.le
  refine enter Try.func39 rfl (N := 35) rfl (Nat.le_of_ble_eq_true rfl) ?_
  have hS := SS.init hG
  refine cw_seq ?_
  refine cw_region ?_
  -- r0.0 t3 := box [44] t1
  refine ol_step rfl (op_box hS rfl rfl) ?_
  clear hS
  rintro _ w ⟨b5, rfl, hS⟩
  -- r0.1 t4 := assign  C(slice (none Addr) 0 0)
  refine ol_pure rfl (op_assign rfl) ?_
  refine ol_nil ?_
  refine pq_then ?_
  refine cw_seq ?_
  refine cw_region ?_
  -- r1.0 t7 := buildSlice [29, 0] 
  refine ol_step rfl (op_buildSlice (el := 3) (is := []) (xs := []) (sz := 1) (cs := []) hS rfl rfl (fun w => by kernel_rfl) rfl (by decide)) ?_
  clear hS
  rintro _ w ⟨o5, rfl, hS⟩
  -- r1.1 t8 := move  t0
  refine ol_pure rfl (op_move rfl) ?_
  -- r1.2 t9 := call append t7 t8
  refine ol_step rfl (op_append (j := 0) (m := m.length) hS sl_29 el_3 rfl rfl rfl rfl rfl (by simp) (by decide) (h3.newsI hS.hold) (ones_i _) (by omega) (by unfold maxLen; omega)) ?_
  clear hS
  rintro _ w ⟨o5n, c_o5n, rfl, hS⟩; (try simp only [List.nil_append, List.cons_append, List.set] at hS)
  -- r1.3 t5 := assign  t9
  refine ol_pure rfl (op_assign rfl) ?_
  refine ol_nil ?_
  refine pq_then ?_
  refine cw_seq ?_
  refine cw_seq ?_
  refine cw_region ?_
  -- r2.0 t6 := assign  C0
  refine ol_pure rfl (op_assign rfl) ?_
  refine ol_nil ?_
  refine pq_then ?_
  refine cw_block ?_
  refine cw_loop (fun e w n => ∃ j oT lT cT, e = [(3, .pointer (some ⟨b5, 0, none⟩)), (5, .slice oT lT cT), (6, .int .i64 (j : Nat))] ∧ j ≤ s.atoms.length ∧ n = s.atoms.length - j ∧ lT = m.length ∧ SS G w0 G [.row oT lT cT 3 1 (((setAll m (s.atoms.take j) (if 0 ≤ s.rule then (2 : Int) else 0))).map (Value.int .i64)), .blk b5 44 [.int .i64 s.rule, .slice oS s.atoms.length cS]] w) _ _ (by exact ⟨0, o5n, _, c_o5n, rfl, Nat.zero_le _, rfl, Nat.zero_add _, hS⟩) ((Sub.cons rfl (Sub.cons rfl (Sub.cons rfl Sub.nil)))) ?_
  clear hS
  rintro e w n ⟨j, oT, lT, cT, rfl, hj, rfl, hlT, hS⟩
  refine cw_seq ?_
  refine cw_seq ?_
  refine cw_region ?_
  -- r3.0 t10 := move  t6
  refine ol_pure rfl (op_move rfl) ?_
  -- r3.1 t11 := fieldAddr [44, 1] t3
  refine ol_pure rfl (op_fieldAddr fld_44_1 rfl) ?_
  -- r3.2 t12 := load [29] t11
  refine ol_load rfl (op_load1 one_29 rfl (fun w hw => (hw.bcell (i := 1) rfl).trans rfl)) hS ?_
  -- r3.3 t13 := call len t12
  refine ol_pure rfl (op_len sl_29 rfl rfl) ?_
  -- r3.4 t14 := lss t10 t13
  refine ol_pure rfl (op_lss rfl rfl) ?_
  refine ol_nil ?_
  refine pq_then ?_
  refine cw_cond rfl (fun h14 => ?_) (fun h14 => ?_)
  · skip
    try simp only [decide_eq_true_eq, decide_eq_false_iff_not, Bool.not_eq_true', Bool.not_eq_false', Bool.not_eq_eq_eq_not, Bool.not_true, Bool.not_false] at h14
    have hjl : j < s.atoms.length := by omega
    obtain ⟨hoS, hcS, _⟩ := h4.int hjl
    have hjr := hin _ (List.getElem_mem hjl)
    have hrl : s.atoms[j].toNat * 1 < (((setAll m (s.atoms.take j) (if 0 ≤ s.rule then (2 : Int) else 0))).map (Value.int .i64)).length := by simp [setAll_len]; omega
    have hoR := (hS.news (j := 0) rfl _ _ (List.getElem?_eq_getElem hrl)).1
    have hsn := setAll_snoc m s.atoms (if 0 ≤ s.rule then (2 : Int) else 0) hjl
    refine cw_skip ?_
    refine pq_then ?_
    refine cw_seq ?_
    refine cw_block ?_
    refine cw_seq ?_
    refine cw_region ?_
    -- r5.0 t17 := move  t5
    refine ol_pure rfl (op_move rfl) ?_
    -- r5.1 t18 := fieldAddr [44, 1] t3
    refine ol_pure rfl (op_fieldAddr fld_44_1 rfl) ?_
    -- r5.2 t19 := load [29] t18
    refine ol_load rfl (op_load1 one_29 rfl (fun w hw => (hw.bcell (i := 1) rfl).trans rfl)) hS ?_
    -- r5.3 t20 := move  t6
    refine ol_pure rfl (op_move rfl) ?_
    -- r5.4 t21 := indexAddr [29] t19 t20
    refine ol_pure rfl (op_indexN sl_29 rfl rfl (by omega) (by assumption)) ?_
    -- r5.5 t22 := load [3] t21
    refine ol_load rfl (op_load1 one_3 rfl (fun w hw => hw.gcell hcS)) hS ?_
    -- r5.6 t23 := indexAddr [29] t17 t22
    refine ol_pure rfl (op_indexAddr sl_29 rfl rfl (by omega) (by omega) hoR) ?_
    -- r5.7 _ := store [3] t23 C0
    refine ol_step0  (op_storeR (j := 0) (k := s.atoms[j].toNat * 1) hS sz_3 rfl rfl rfl rfl (hrl)) ?_
    clear hS
    rintro _ w hS; (try simp only [List.nil_append, List.cons_append, List.set] at hS)
    refine ol_nil ?_
    refine pq_then ?_
    refine cw_seq ?_
    refine cw_region ?_
    -- r6.0 t24 := fieldAddr [44, 0] t3
    refine ol_pure rfl (op_fieldAddr fld_44_0 rfl) ?_
    -- r6.1 t25 := load [3] t24
    refine ol_load rfl (op_load1 one_3 rfl (fun w hw => (hw.bcell (i := 1) rfl).trans rfl)) hS ?_
    -- r6.2 t26 := geq t25 C0
    refine ol_pure rfl (op_geq rfl rfl) ?_
    refine ol_nil ?_
    refine pq_then ?_
    refine cw_cond rfl (fun h26 => ?_) (fun h26 => ?_)
    · skip
      try simp only [decide_eq_true_eq, decide_eq_false_iff_not, Bool.not_eq_true', Bool.not_eq_false', Bool.not_eq_eq_eq_not, Bool.not_true, Bool.not_false] at h26
      refine cw_region ?_
      -- r7.0 t27 := move  t5
      refine ol_pure rfl (op_move rfl) ?_
      -- r7.1 t28 := fieldAddr [44, 1] t3
      refine ol_pure rfl (op_fieldAddr fld_44_1 rfl) ?_
      -- r7.2 t29 := load [29] t28
      refine ol_load rfl (op_load1 one_29 rfl (fun w hw => (hw.bcell (i := 1) rfl).trans rfl)) hS ?_
      -- r7.3 t30 := move  t6
      refine ol_pure rfl (op_move rfl) ?_
      -- r7.4 t31 := indexAddr [29] t29 t30
      refine ol_pure rfl (op_indexN sl_29 rfl rfl (by omega) (by assumption)) ?_
      -- r7.5 t32 := load [3] t31
      refine ol_load rfl (op_load1 one_3 rfl (fun w hw => hw.gcell hcS)) hS ?_
      -- r7.6 t33 := indexAddr [29] t27 t32
      refine ol_pure rfl (op_indexAddr sl_29 rfl rfl (by omega) (by omega) hoR) ?_
      -- r7.7 _ := store [3] t33 C2
      refine ol_step0  (op_storeR (j := 0) (k := s.atoms[j].toNat * 1) hS sz_3 rfl rfl rfl rfl ((by rw [List.length_set]; exact hrl))) ?_
      clear hS
      rintro _ w hS; (try simp only [List.nil_append, List.cons_append, List.set] at hS)
      refine ol_nil ?_
      refine pq_in_normal ?_
      refine pq_then ?_
      refine cw_region ?_
      -- r4.0 t15 := move  t6
      refine ol_pure rfl (op_move rfl) ?_
      -- r4.1 t16 := add t15 C1
      refine ol_pure rfl (op_add rfl rfl (by omega) (by omega)) ?_
      -- r4.2 t6 := assign  t16
      refine ol_pure rfl (op_assign rfl) ?_
      refine ol_nil ?_
      -- end of round 1 h14t h26t
      refine pq_loop _ _ (by exact (by
          rw [List.set_set, Nat.mul_one, ← List.map_set, show (setAll m (s.atoms.take j) (if 0 ≤ s.rule then (2 : Int) else 0)).set s.atoms[j].toNat 2 = setAll m (s.atoms.take (j + 1)) (if 0 ≤ s.rule then (2 : Int) else 0) from by rw [hsn, if_pos (by omega)]] at hS
          exact ⟨j + 1, oT, lT, cT, rfl, by omega, rfl, hlT, hS⟩)) ((Sub.cons rfl (Sub.cons rfl (Sub.cons rfl Sub.nil)))) (by omega)
    · skip
      try simp only [decide_eq_true_eq, decide_eq_false_iff_not, Bool.not_eq_true', Bool.not_eq_false', Bool.not_eq_eq_eq_not, Bool.not_true, Bool.not_false] at h26
      refine cw_skip ?_
      refine pq_in_normal ?_
      refine pq_then ?_
      refine cw_region ?_
      -- r4.0 t15 := move  t6
      refine ol_pure rfl (op_move rfl) ?_
      -- r4.1 t16 := add t15 C1
      refine ol_pure rfl (op_add rfl rfl (by omega) (by omega)) ?_
      -- r4.2 t6 := assign  t16
      refine ol_pure rfl (op_assign rfl) ?_
      refine ol_nil ?_
      -- end of round 1 h14t h26f
      refine pq_loop _ _ (by exact (by
          rw [Nat.mul_one, ← List.map_set, show (setAll m (s.atoms.take j) (if 0 ≤ s.rule then (2 : Int) else 0)).set s.atoms[j].toNat 0 = setAll m (s.atoms.take (j + 1)) (if 0 ≤ s.rule then (2 : Int) else 0) from by rw [hsn, if_neg (by omega)]] at hS
          exact ⟨j + 1, oT, lT, cT, rfl, by omega, rfl, hlT, hS⟩)) ((Sub.cons rfl (Sub.cons rfl (Sub.cons rfl Sub.nil)))) (by omega)
  · skip
    try simp only [decide_eq_true_eq, decide_eq_false_iff_not, Bool.not_eq_true', Bool.not_eq_false', Bool.not_eq_eq_eq_not, Bool.not_true, Bool.not_false] at h14
    refine cw_exit ?_
    refine pq_exit ?_
    refine pq_exit ?_
    refine pq_in_exit ?_
    refine pq_then ?_
    refine cw_seq ?_
    refine cw_region ?_
    -- r8.0 t34 := move  t5
    refine ol_pure rfl (op_move rfl) ?_
    -- r8.1 t4 := assign  t34
    refine ol_pure rfl (op_assign rfl) ?_
    refine ol_nil ?_
    refine pq_then ?_
    refine cw_ret ?_
    refine ret1 rfl rfl ?_
    -- ret1 h14f
    rw [List.take_of_length_le (show s.atoms.length ≤ j by omega)] at hS
    have hmt := tellI_mem (s := s) hmb
    exact hS.rt_row [] (by decide) (Rows.ints (l := tellI m s) fun x hx => by have := hmt x hx; omega) EInt.mono (by rw [tellI_len]; exact hlT)
set_option maxRecDepth 100000 in
set_option maxHeartbeats 1000000 in

theorem R22_Partly_c (G : GH) (w0 : World) (hG : Holds G w0) {α : Type} {E : ER α} (hE : EMono E) (va vr : Value) (atoms : List α) (rs : List Rule) (h1 : RSl 1 E G va atoms) (h2 : RSl 3 ERule G vr rs) (hP : PrOk atoms.length rs) (v : Value) (l : List Step) (h5 : RSl 2 EStep G v l)  :
    Calls Try.prog 20 #[.agg #[va, vr], v] w0 (Rt noG w0 (fun G v => ∃ vm, v = .tuple #[vm, .int .i64 ((partly rs (startI atoms.length) l).2 : Nat)] ∧ RSl 1 EInt G vm (partly rs (startI atoms.length) l).1)) := by
  obtain ⟨oA, cA, rfl, hlA, hmA⟩ := h1.elim
  obtain ⟨oR, cR, rfl, hlR, hmR⟩ := h2.elim
  have hle1 := h1.le
  have hle2 := h2.le
  have hPn := hP.n_le
  have hPm := hP.m_le
  obtain ⟨oL, cL, rfl, hlL, hmL⟩ := h5.elim
  have hLle := h5.le
  refine enter Try.func20 rfl (N := 35) rfl (Nat.le_of_ble_eq_true rfl) ?_
  have hS := SS.init hG
  refine cw_seq ?_
  refine cw_region ?_
  -- r0.0 t2 := box [25] t0
  refine ol_step rfl (op_box hS rfl rfl) ?_
  clear hS
  rintro _ w ⟨b2, rfl, hS⟩
  -- r0.1 t4 := assign  C(slice (none Addr) 0 0)
  refine ol_pure rfl (op_assign rfl) ?_
  -- r0.2 t5 := assign  C0
  refine ol_pure rfl (op_assign rfl) ?_
  refine ol_nil ?_
  refine pq_then ?_
  refine cw_seq ?_
  refine cw_region ?_
  -- r1.0 t8 := load [25] t2
  refine ol_load rfl (op_loadN agg_25 rfl (by rfl) (fun w hw k u hk => (hw.bcell (i := 0) rfl).trans hk)) hS ?_
  -- r1.1 t9 := call f37 t8
  refine ol_step rfl (op_call_fr hS cf_37 rfl (R22_start_c _ _ hS.hold _ _ atoms h1 ⟨_, _, _, rfl⟩ hPn)) ?_
  clear hS
  rintro v9 w ⟨F9, G9, hR9, hF9, hf9, hl9, hS⟩
  obtain ⟨oM0, cM0, rfl, _, _⟩ := hR9.elimN (n := atoms.length) (by simp [startI])
  -- r1.2 t6 := assign  t9
  refine ol_pure rfl (op_assign rfl) ?_
  refine ol_nil ?_
  refine pq_then ?_
  refine cw_seq ?_
  refine cw_seq ?_
  refine cw_region ?_
  -- r2.0 t7 := assign  C0
  refine ol_pure rfl (op_assign rfl) ?_
  refine ol_nil ?_
  refine pq_then ?_
  refine cw_block ?_
  refine cw_loop (fun e w n => ∃ (k : Nat) (Gk Fk : GH) (oMk : Option Addr) (cMk : Nat) (mk : List Int), e = [(1, .slice oL l.length cL), (2, .pointer (some ⟨b2, 0, none⟩)), (6, .slice oMk atoms.length cMk), (7, .int .i64 (k : Nat))] ∧ k ≤ l.length ∧ n = l.length - k ∧ mk.length = atoms.length ∧ (∀ x ∈ mk, 0 ≤ x ∧ x ≤ 2) ∧ (partly rs (startI atoms.length) l).1 = (partly rs mk (l.drop k)).1 ∧ (partly rs (startI atoms.length) l).2 = k + (partly rs mk (l.drop k)).2 ∧ Le G Gk ∧ RSl 1 EInt Fk (.slice oMk atoms.length cMk) mk ∧ Le Fk Gk ∧ (∀ b, b < w0.heap.size → Fk b = none) ∧ SS G w0 Gk [.blk b2 25 [.slice oA atoms.length cA, .slice oR rs.length cR]] w) _ _ (by exact ⟨0, G9, F9, oM0, cM0, startI atoms.length, rfl, Nat.zero_le _, rfl, by simp [startI], startI_mem, rfl, by simp, hl9, hR9, hf9, hF9, hS⟩) ((Sub.cons rfl (Sub.cons rfl (Sub.cons rfl (Sub.cons rfl Sub.nil))))) ?_
  clear hS
  rintro e w n ⟨k, Gk, Fk, oMk, cMk, mk, rfl, hk, rfl, hmkl, hmkb, e1, e2, hlk, hMk, hfk, hFk, hS⟩
  refine cw_seq ?_
  refine cw_seq ?_
  refine cw_region ?_
  -- r3.0 t10 := move  t7
  refine ol_pure rfl (op_move rfl) ?_
  -- r3.1 t11 := move  t1
  refine ol_pure rfl (op_move rfl) ?_
  -- r3.2 t12 := call len t11
  refine ol_pure rfl (op_len sl_28 rfl rfl) ?_
  -- r3.3 t13 := lss t10 t12
  refine ol_pure rfl (op_lss rfl rfl) ?_
  refine ol_nil ?_
  refine pq_then ?_
  refine cw_cond rfl (fun h13 => ?_) (fun h13 => ?_)
  · skip
    try simp only [decide_eq_true_eq, decide_eq_false_iff_not, Bool.not_eq_true', Bool.not_eq_false', Bool.not_eq_eq_eq_not, Bool.not_true, Bool.not_false] at h13
    have hlt : k < l.length := by omega
    obtain ⟨hoL, cs, hcl, ⟨uk, rfl, huk, hsb⟩, hcells⟩ := h5.el hlt
    obtain ⟨oS, cS, rfl, _, _⟩ := huk.elim
    have hgo := partly_go (rs := rs) (m := mk) hlt
    have hst := partly_stop (rs := rs) (m := mk) hlt
    have hmt := tellI_mem (s := l[k]) hmkb
    refine cw_skip ?_
    refine pq_then ?_
    refine cw_seq ?_
    refine cw_block ?_
    refine cw_seq ?_
    refine cw_seq ?_
    refine al_start' hS (hS.take 1) (by kernel_rfl) rfl (fun w hS hT => ?_)
    -- r5.0 t16 := load [25] t2
    refine al_load (i := 0) rfl (by kernel_rfl) (by kernel_rfl) (by kernel_rfl) rfl (fun _ _ _ h => h) (by exact op_loadN agg_25 rfl (by rfl) (fun w hw k u hk => (hw.bcell (i := 0) rfl).trans hk)) rfl hT ?_
    -- r5.1 t17 := move  t6
    refine al_take (i := 1) rfl (by kernel_rfl) (by kernel_rfl) (by kernel_rfl) rfl (fun _ _ _ h => h) (op_move rfl) rfl ?_
    -- r5.2 t18 := move  t1
    refine al_take (i := 2) rfl (by kernel_rfl) (by kernel_rfl) (by kernel_rfl) rfl (fun _ _ _ h => h) (op_move rfl) rfl ?_
    -- r5.3 t19 := move  t7
    refine al_take (i := 3) rfl (by kernel_rfl) (by kernel_rfl) (by kernel_rfl) rfl (fun _ _ _ h => h) (op_move rfl) rfl ?_
    -- r5.4 t20 := indexAddr [28] t18 t19
    refine al_take (i := 4) rfl (by kernel_rfl) (by kernel_rfl) (by kernel_rfl) rfl (fun _ _ _ h => h) (op_indexN sl_28 rfl rfl (by omega) hoL) rfl ?_
    -- r5.5 t21 := load [44] t20
    refine al_load (i := 5) rfl (by kernel_rfl) (by kernel_rfl) (by kernel_rfl) rfl (fun _ _ _ h => h) (by exact op_loadN agg_44 rfl (by rfl) (fun w hw k u hk => hw.gcell0 (hcells k u hk))) rfl hT ?_
    refine al_step (i := 6) rfl (by kernel_rfl) rfl (op_call_sc hS cf_38 rfl (R22_holds_c _ _ hS.hold hE _ _ atoms rs (h1.mono hE hlk) (h2.mono ERule.mono hlk) hP _ mk (hMk.mono EInt.mono hfk) hmkl l[k] _ (huk.mono EInt.mono hlk) hsb)) ?_
    clear hS
    rintro _ w ⟨rfl, hS⟩
    refine ⟨no_need (by kernel_rfl), ?_⟩
    -- r5.7 t23 := not t22
    refine al_take (i := 7) rfl (by kernel_rfl) (by kernel_rfl) (by kernel_rfl) rfl (fun _ _ _ h => h) (op_not rfl) rfl ?_
    refine al_done (by kernel_rfl) ?_
    refine pq_then ?_
    refine cw_cond rfl (fun h23 => ?_) (fun h23 => ?_)
    · skip
      try simp only [decide_eq_true_eq, decide_eq_false_iff_not, Bool.not_eq_true', Bool.not_eq_false', Bool.not_eq_eq_eq_not, Bool.not_true, Bool.not_false] at h23
      have hso : stepOk rs mk l[k] = false := by simpa using h23
      refine cw_seq ?_
      refine cw_region ?_
      -- r6.0 t24 := move  t6
      refine ol_pure rfl (op_move rfl) ?_
      -- r6.1 t25 := move  t7
      refine ol_pure rfl (op_move rfl) ?_
      -- r6.2 t4 := assign  t24
      refine ol_pure rfl (op_assign rfl) ?_
      -- r6.3 t5 := assign  t25
      refine ol_pure rfl (op_assign rfl) ?_
      refine ol_nil ?_
      refine pq_then ?_
      refine cw_ret ?_
      refine pq_ret ?_
      refine pq_in_ret ?_
      refine pq_ret ?_
      refine pq_ret ?_
      refine pq_in_ret ?_
      refine pq_ret ?_
      refine ret2 rfl rfl rfl ?_
      -- ret1 h13t h23t
      rw [hst hso] at e1 e2
      exact hS.rt_fr hfk hFk ⟨_, by rw [e2]; rfl, by rw [e1]; exact hMk⟩
    · skip
      try simp only [decide_eq_true_eq, decide_eq_false_iff_not, Bool.not_eq_true', Bool.not_eq_false', Bool.not_eq_eq_eq_not, Bool.not_true, Bool.not_false] at h23
      have hso : stepOk rs mk l[k] = true := by simpa using h23
      refine cw_skip ?_
      refine pq_then ?_
      refine cw_region ?_
      -- r7.0 t26 := move  t6
      refine ol_pure rfl (op_move rfl) ?_
      -- r7.1 t27 := move  t1
      refine ol_pure rfl (op_move rfl) ?_
      -- r7.2 t28 := move  t7
      refine ol_pure rfl (op_move rfl) ?_
      -- r7.3 t29 := indexAddr [28] t27 t28
      refine ol_pure rfl (op_indexN sl_28 rfl rfl (by omega) (by assumption)) ?_
      -- r7.4 t30 := load [44] t29
      refine ol_load rfl (op_loadN agg_44 rfl (by rfl) (fun w hw k u hk => hw.gcell0 (hcells k u hk))) hS ?_
      -- r7.5 t31 := call f39 t26 t30
      refine ol_step rfl (op_call_fr hS cf_39 rfl (R22_tell_c _ _ hS.hold _ mk (hMk.mono EInt.mono hfk) l[k] _ (huk.mono EInt.mono hlk) hsb hmkb (by omega) (fun a ha => (setOpen_iff.1 (stepOk_set hso)).1 a ha |>.1))) ?_
      clear hS
      rintro v31 w ⟨F31, G31, hR31, hF31, hf31, hl31, hS⟩
      obtain ⟨oM1, cM1, rfl, _, _⟩ := hR31.elimN (n := atoms.length) (by rw [tellI_len, hmkl])
      -- r7.6 t6 := assign  t31
      refine ol_pure rfl (op_assign rfl) ?_
      refine ol_nil ?_
      refine pq_in_normal ?_
      refine pq_then ?_
      refine cw_region ?_
      -- r4.0 t14 := move  t7
      refine ol_pure rfl (op_move rfl) ?_
      -- r4.1 t15 := add t14 C1
      refine ol_pure rfl (op_add rfl rfl (by omega) (by omega)) ?_
      -- r4.2 t7 := assign  t15
      refine ol_pure rfl (op_assign rfl) ?_
      refine ol_nil ?_
      -- end of round 1 h13t h23f
      refine pq_loop _ _ (by exact ⟨k + 1, G31, F31, oM1, cM1, tellI mk l[k], rfl, by omega, rfl, by rw [tellI_len, hmkl], hmt, by rw [e1, (hgo hso).1], by rw [e2, (hgo hso).2]; omega, hlk.trans hl31, hR31, hf31, hF31, hS⟩) ((Sub.cons rfl (Sub.cons rfl (Sub.cons rfl (Sub.cons rfl Sub.nil))))) (by omega)
  · skip
    try simp only [decide_eq_true_eq, decide_eq_false_iff_not, Bool.not_eq_true', Bool.not_eq_false', Bool.not_eq_eq_eq_not, Bool.not_true, Bool.not_false] at h13
    refine cw_exit ?_
    refine pq_exit ?_
    refine pq_exit ?_
    refine pq_in_exit ?_
    refine pq_then ?_
    refine cw_seq ?_
    refine cw_region ?_
    -- r8.0 t32 := move  t6
    refine ol_pure rfl (op_move rfl) ?_
    -- r8.1 t33 := move  t1
    refine ol_pure rfl (op_move rfl) ?_
    -- r8.2 t34 := call len t33
    refine ol_pure rfl (op_len sl_28 rfl rfl) ?_
    -- r8.3 t4 := assign  t32
    refine ol_pure rfl (op_assign rfl) ?_
    -- r8.4 t5 := assign  t34
    refine ol_pure rfl (op_assign rfl) ?_
    refine ol_nil ?_
    refine pq_then ?_
    refine cw_ret ?_
    refine ret2 rfl rfl rfl ?_
    -- ret2 h13f
    rw [partly_end (show l.length ≤ k by omega)] at e1 e2
    exact hS.rt_fr hfk hFk ⟨_, by rw [e2, show k = l.length from by omega]; rfl, by rw [e1]; exact hMk⟩
set_option maxRecDepth 100000 in
set_option maxHeartbeats 2000000 in

theorem R22_held_c (G : GH) (w0 : World) (hG : Holds G w0) {α : Type} {E : ER α} (hE : EMono E) (va vr : Value) (atoms : List α) (rs : List Rule) (h1 : RSl 1 E G va atoms) (h2 : RSl 3 ERule G vr rs) (hP : PrOk atoms.length rs) (vm : Value) (m : List Int) (h3 : RSl 1 EInt G vm m) (hm : m.length = atoms.length) (v : Value) (l : List Int) (h4 : RSl 1 EInt G v l) :
    Calls Try.prog 35 #[.agg #[va, vr], vm, v] w0 (Sc w0 (.bool (heldC rs m l))) := by
  obtain ⟨oA, cA, rfl, hlA, hmA⟩ := h1.elim
  obtain ⟨oR, cR, rfl, hlR, hmR⟩ := h2.elim
  have hle1 := h1.le
  have hle2 := h2.le
  have hPn := hP.n_le
  have hPm := hP.m_le
  obtain ⟨oM, cM, rfl, hlM, hmM⟩ := h3.elim
  obtain ⟨oL, cL, rfl, hlL, hmL⟩ := h4.elim
  have hLle := h4.le
  have hokm : ∀ r ∈ rs, RuleOk m.length r := fun r hr => by rw [hm]; exact (hP.rule r hr).1
  refine enter Try.func35 rfl (N := 115) rfl (Nat.le_of_ble_eq_true rfl) ?_
  have hS := SS.init hG
  refine cw_seq ?_
  refine cw_region ?_
  -- r0.0 t3 := box [25] t0
  refine ol_step rfl (op_box hS rfl rfl) ?_
  clear hS
  rintro _ w ⟨b3, rfl, hS⟩
  -- r0.1 t6 := assign  Cfalse
  refine ol_pure rfl (op_assign rfl) ?_
  refine ol_nil ?_
  refine pq_then ?_
  refine cw_seq ?_
  refine cw_region ?_
  -- r1.0 t13 := buildSlice [29, 0] 
  refine ol_step rfl (op_buildSlice (el := 3) (is := []) (xs := []) (sz := 1) (cs := []) hS rfl rfl (fun w => by kernel_rfl) rfl (by decide)) ?_
  clear hS
  rintro _ w ⟨o7, rfl, hS⟩
  -- r1.1 t7 := assign  t13
  refine ol_pure rfl (op_assign rfl) ?_
  refine ol_nil ?_
  refine pq_then ?_
  refine cw_seq ?_
  refine cw_seq ?_
  refine cw_region ?_
  -- r2.0 t8 := assign  C0
  refine ol_pure rfl (op_assign rfl) ?_
  refine ol_nil ?_
  refine pq_then ?_
  refine cw_block ?_
  refine cw_loop (fun e w n => ∃ (i : Nat) (o7 : Option Addr) (l7 c7 : Nat) (heads : List Int), e = [(1, .slice oM m.length cM), (2, .slice oL l.length cL), (3, .pointer (some ⟨b3, 0, none⟩)), (7, .slice o7 l7 c7), (8, .int .i64 (i : Nat))] ∧ i ≤ l.length ∧ n = l.length - i ∧ l7 = heads.length ∧ heads.Nodup ∧ (∀ x ∈ heads, 0 ≤ x ∧ x < m.length) ∧ heldL rs m [] l = heldL rs m heads (l.drop i) ∧ SS G w0 G [.row o7 l7 c7 3 1 (heads.map (Value.int .i64)), .blk b3 25 [.slice oA atoms.length cA, .slice oR rs.length cR]] w) _ _ (by exact ⟨0, o7, 0, _, [], rfl, Nat.zero_le _, rfl, rfl, by simp, by simp, rfl, hS⟩) ((Sub.cons rfl (Sub.cons rfl (Sub.cons rfl (Sub.cons rfl (Sub.cons rfl Sub.nil)))))) ?_
  clear hS
  rintro e w n ⟨i, o7, l7, c7, heads, rfl, hi, rfl, hl7, hnd, hrg, hh, hS⟩
  refine cw_seq ?_
  refine cw_seq ?_
  refine cw_region ?_
  -- r3.0 t14 := move  t8
  refine ol_pure rfl (op_move rfl) ?_
  -- r3.1 t15 := move  t2
  refine ol_pure rfl (op_move rfl) ?_
  -- r3.2 t16 := call len t15
  refine ol_pure rfl (op_len sl_29 rfl rfl) ?_
  -- r3.3 t17 := lss t14 t16
  refine ol_pure rfl (op_lss rfl rfl) ?_
  refine ol_nil ?_
  refine pq_then ?_
  refine cw_cond rfl (fun h17 => ?_) (fun h17 => ?_)
  · skip
    try simp only [decide_eq_true_eq, decide_eq_false_iff_not, Bool.not_eq_true', Bool.not_eq_false', Bool.not_eq_eq_eq_not, Bool.not_true, Bool.not_false] at h17
    have hil : i < l.length := by omega
    obtain ⟨hoL, hcL, hbL⟩ := h4.int hil
    have hns := nodup_le (n := m.length) hnd hrg
    have hlend := SS.lend (zs := heads) [] hS (by decide) EInt.mono (Rows.of_map (xs := heads) (f := Value.int .i64) (E := EInt) (fun y hy => ⟨rfl, by have := hrg y hy; omega⟩)) hl7
    refine cw_skip ?_
    refine pq_then ?_
    refine cw_seq ?_
    refine cw_block ?_
    refine cw_seq ?_
    refine cw_seq ?_
    refine al_start' hS (hS.take 2) (by kernel_rfl) rfl (fun w hS hT => ?_)
    -- r5.0 t20 := move  t2
    refine al_take (i := 0) rfl (by kernel_rfl) (by kernel_rfl) (by kernel_rfl) rfl (fun _ _ _ h => h) (op_move rfl) rfl ?_
    -- r5.1 t21 := move  t8
    refine al_take (i := 1) rfl (by kernel_rfl) (by kernel_rfl) (by kernel_rfl) rfl (fun _ _ _ h => h) (op_move rfl) rfl ?_
    -- r5.2 t22 := indexAddr [29] t20 t21
    refine al_take (i := 2) rfl (by kernel_rfl) (by kernel_rfl) (by kernel_rfl) rfl (fun _ _ _ h => h) (op_indexN sl_29 rfl rfl (by omega) (by assumption)) rfl ?_
    -- r5.3 t23 := load [3] t22
    refine al_load (i := 3) rfl (by kernel_rfl) (by kernel_rfl) (by kernel_rfl) rfl (fun _ _ _ h => h) (by exact op_load1 one_3 rfl (fun w hw => hw.gcell hcL)) rfl hT ?_
    -- r5.4 t24 := lss t23 C0
    refine al_take (i := 4) rfl (by kernel_rfl) (by kernel_rfl) (by kernel_rfl) rfl (fun _ _ _ h => h) (op_lss rfl rfl) rfl ?_
    -- r5.5 t25 := move  t24
    refine al_take (i := 5) rfl (by kernel_rfl) (by kernel_rfl) (by kernel_rfl) rfl (fun _ _ _ h => h) (op_move rfl) rfl ?_
    refine al_split (fun h25 => ?_) (fun h25 => ?_)
    · skip
      try simp only [decide_eq_true_eq, decide_eq_false_iff_not, Bool.not_eq_true', Bool.not_eq_false', Bool.not_eq_eq_eq_not, Bool.not_true, Bool.not_false] at h25
      refine al_gskip (i := 6) rfl (by kernel_rfl) (by kernel_rfl) (by kernel_rfl) rfl rfl rfl rfl (fun _ _ _ h => h) (fun _ => hT) ?_
      refine al_gskip (i := 7) rfl (by kernel_rfl) (by kernel_rfl) (by kernel_rfl) rfl rfl rfl rfl (fun _ _ _ h => h) (fun _ => hT) ?_
      refine al_gskip (i := 8) rfl (by kernel_rfl) (by kernel_rfl) (by kernel_rfl) rfl rfl rfl rfl (fun _ _ _ h => h) (fun _ => hT) ?_
      refine al_gskip (i := 9) rfl (by kernel_rfl) (by kernel_rfl) (by kernel_rfl) rfl rfl rfl rfl (fun _ _ _ h => h) (fun _ => hT) ?_
      refine al_gskip (i := 10) rfl (by kernel_rfl) (by kernel_rfl) (by kernel_rfl) rfl rfl rfl rfl (fun _ _ _ h => h) (fun _ => hT) ?_
      refine al_gskip (i := 11) rfl (by kernel_rfl) (by kernel_rfl) (by kernel_rfl) rfl rfl rfl rfl (fun _ _ _ h => h) (fun _ => hT) ?_
      refine al_gskip (i := 12) rfl (by kernel_rfl) (by kernel_rfl) (by kernel_rfl) rfl rfl rfl rfl (fun _ _ _ h => h) (fun _ => hT) ?_
      refine al_gskip (i := 13) rfl (by kernel_rfl) (by kernel_rfl) (by kernel_rfl) rfl rfl rfl rfl (fun _ _ _ h => h) (fun _ => hT) ?_
      -- r5.14 t34 := pick  t25 Ctrue t33
      refine al_take (i := 14) rfl (by kernel_rfl) (by kernel_rfl) (by kernel_rfl) rfl (fun _ _ _ h => h) (op_pick_t rfl rfl) rfl ?_
      refine al_done (by kernel_rfl) ?_
      refine pq_then ?_
      refine cw_cond_t rfl ?_
      refine cw_seq ?_
      refine cw_region ?_
      -- r6.0 t6 := assign  Cfalse
      refine ol_pure rfl (op_assign rfl) ?_
      refine ol_nil ?_
      refine pq_then ?_
      refine cw_ret ?_
      refine pq_ret ?_
      refine pq_in_ret ?_
      refine pq_ret ?_
      refine pq_ret ?_
      refine pq_in_ret ?_
      refine pq_ret ?_
      refine ret1 rfl rfl ?_
      -- ret1 h17t h25t
      exact hS.sc_b (by rw [heldC, hh, heldL_neg hil h25])
    · skip
      try simp only [decide_eq_true_eq, decide_eq_false_iff_not, Bool.not_eq_true', Bool.not_eq_false', Bool.not_eq_eq_eq_not, Bool.not_true, Bool.not_false] at h25
      -- r5.6 t26 := move  t2 ?5=False
      refine al_gtake (i := 6) rfl (by kernel_rfl) (by kernel_rfl) (by kernel_rfl) rfl rfl rfl (fun _ _ _ h => h) (op_move rfl) rfl ?_
      -- r5.7 t27 := move  t8 ?5=False
      refine al_gtake (i := 7) rfl (by kernel_rfl) (by kernel_rfl) (by kernel_rfl) rfl rfl rfl (fun _ _ _ h => h) (op_move rfl) rfl ?_
      -- r5.8 t28 := indexAddr [29] t26 t27 ?5=False
      refine al_gtake (i := 8) rfl (by kernel_rfl) (by kernel_rfl) (by kernel_rfl) rfl rfl rfl (fun _ _ _ h => h) (op_indexN sl_29 rfl rfl (by omega) (by assumption)) rfl ?_
      -- r5.9 t29 := load [3] t28 ?5=False
      refine al_gload (i := 9) rfl (by kernel_rfl) (by kernel_rfl) (by kernel_rfl) rfl rfl rfl (fun _ _ _ h => h) (by exact op_load1 one_3 rfl (fun w hw => hw.gcell hcL)) rfl hT ?_
      -- r5.10 t30 := fieldAddr [25, 1] t3 ?5=False
      refine al_gtake (i := 10) rfl (by kernel_rfl) (by kernel_rfl) (by kernel_rfl) rfl rfl rfl (fun _ _ _ h => h) (op_fieldAddr fld_25_1 rfl) rfl ?_
      -- r5.11 t31 := load [23] t30 ?5=False
      refine al_gload (i := 11) rfl (by kernel_rfl) (by kernel_rfl) (by kernel_rfl) rfl rfl rfl (fun _ _ _ h => h) (by exact op_load1 one_23 rfl (fun w hw => (hw.bcell (i := 1) rfl).trans rfl)) rfl hT ?_
      -- r5.12 t32 := call len t31 ?5=False
      refine al_gtake (i := 12) rfl (by kernel_rfl) (by kernel_rfl) (by kernel_rfl) rfl rfl rfl (fun _ _ _ h => h) (op_len sl_23 rfl rfl) rfl ?_
      -- r5.13 t33 := geq t29 t32 ?5=False
      refine al_gtake (i := 13) rfl (by kernel_rfl) (by kernel_rfl) (by kernel_rfl) rfl rfl rfl (fun _ _ _ h => h) (op_geq rfl rfl) rfl ?_
      -- r5.14 t34 := pick  t25 Ctrue t33
      refine al_take (i := 14) rfl (by kernel_rfl) (by kernel_rfl) (by kernel_rfl) rfl (fun _ _ _ h => h) (op_pick_f rfl rfl) rfl ?_
      refine al_done (by kernel_rfl) ?_
      refine pq_then ?_
      refine cw_cond rfl (fun h34 => ?_) (fun h34 => ?_)
      · skip
        try simp only [decide_eq_true_eq, decide_eq_false_iff_not, Bool.not_eq_true', Bool.not_eq_false', Bool.not_eq_eq_eq_not, Bool.not_true, Bool.not_false] at h34
        refine cw_seq ?_
        refine cw_region ?_
        -- r6.0 t6 := assign  Cfalse
        refine ol_pure rfl (op_assign rfl) ?_
        refine ol_nil ?_
        refine pq_then ?_
        refine cw_ret ?_
        refine pq_ret ?_
        refine pq_in_ret ?_
        refine pq_ret ?_
        refine pq_ret ?_
        refine pq_in_ret ?_
        refine pq_ret ?_
        refine ret1 rfl rfl ?_
        -- ret1 h17t h25f h34t
        exact hS.sc_b (by rw [heldC, hh, heldL_big hil (by omega)])
      · skip
        try simp only [decide_eq_true_eq, decide_eq_false_iff_not, Bool.not_eq_true', Bool.not_eq_false', Bool.not_eq_eq_eq_not, Bool.not_true, Bool.not_false] at h34
        obtain ⟨k, hk⟩ := Int.eq_ofNat_of_zero_le (show 0 ≤ l[i] by omega)
        have hlt : k < rs.length := by omega
        have hrk := (hP.rule _ (List.getElem_mem hlt)).1
        obtain ⟨hoa, cs, hcl, ⟨p, q, rfl, hp, hq, hhd⟩, hcells⟩ := h2.el hlt
        obtain ⟨op, cp, hpe, hlp, hmp⟩ := hp.elim
        obtain ⟨oq, cq, hqe, hlq, hmq⟩ := hq.elim
        subst hpe
        subst hqe
        have hple := hp.le
        have hrm : RuleOk m.length rs[k] := by rw [hm]; exact hrk
        have hcells2 : ∀ (j : Nat) (u : Value), [Value.int .i64 rs[k].head, .slice op rs[k].pos.length cp, .slice oq rs[k].neg.length cq][j]? = some u → gcell G ((elA oR (l[i].toNat * 3)).add j) = some u := by rw [hk]; exact hcells
        obtain ⟨hd, hhe⟩ := Int.eq_ofNat_of_zero_le hrk.1.1
        have hhn : hd < m.length := by have := hrm.1.2; omega
        have hrk1 := hrm.1
        obtain ⟨hoM, hcM, _⟩ := h3.int hhn
        have hvh : valI m rs[k].head = m[hd] := by rw [hhe]; exact val_at hhn
        refine cw_skip ?_
        refine pq_then ?_
        refine cw_seq ?_
        refine al_start' hS (hS.take 2) (by kernel_rfl) rfl (fun w hS hT => ?_)
        -- r7.0 t35 := fieldAddr [25, 1] t3
        refine al_take (i := 0) rfl (by kernel_rfl) (by kernel_rfl) (by kernel_rfl) rfl (fun _ _ _ h => h) (op_fieldAddr fld_25_1 rfl) rfl ?_
        -- r7.1 t36 := load [23] t35
        refine al_load (i := 1) rfl (by kernel_rfl) (by kernel_rfl) (by kernel_rfl) rfl (fun _ _ _ h => h) (by exact op_load1 one_23 rfl (fun w hw => (hw.bcell (i := 1) rfl).trans rfl)) rfl hT ?_
        -- r7.2 t37 := move  t2
        refine al_take (i := 2) rfl (by kernel_rfl) (by kernel_rfl) (by kernel_rfl) rfl (fun _ _ _ h => h) (op_move rfl) rfl ?_
        -- r7.3 t38 := move  t8
        refine al_take (i := 3) rfl (by kernel_rfl) (by kernel_rfl) (by kernel_rfl) rfl (fun _ _ _ h => h) (op_move rfl) rfl ?_
        -- r7.4 t39 := indexAddr [29] t37 t38
        refine al_take (i := 4) rfl (by kernel_rfl) (by kernel_rfl) (by kernel_rfl) rfl (fun _ _ _ h => h) (op_indexN sl_29 rfl rfl (by omega) (by assumption)) rfl ?_
        -- r7.5 t40 := load [3] t39
        refine al_load (i := 5) rfl (by kernel_rfl) (by kernel_rfl) (by kernel_rfl) rfl (fun _ _ _ h => h) (by exact op_load1 one_3 rfl (fun w hw => hw.gcell hcL)) rfl hT ?_
        -- r7.6 t41 := indexAddr [23] t36 t40
        refine al_take (i := 6) rfl (by kernel_rfl) (by kernel_rfl) (by kernel_rfl) rfl (fun _ _ _ h => h) (op_indexAddr sl_23 rfl rfl (by omega) (by omega) hoa) rfl ?_
        -- r7.7 t42 := load [48] t41
        refine al_load (i := 7) rfl (by kernel_rfl) (by kernel_rfl) (by kernel_rfl) rfl (fun _ _ _ h => h) (by exact op_loadN agg_48 rfl (by rfl) (fun w hw k u hk => hw.gcell (hcells2 k u hk))) rfl hT ?_
        refine al_step (i := 8) rfl (by kernel_rfl) rfl (op_alloc hS el_48 rfl) ?_
        clear hS
        rintro _ w ⟨b9, rfl, hS⟩
        have hT := hT.back hS (by first | exact Le.refl _ | assumption) (fun x hx => by try simp only [List.take_succ_cons, List.take_zero, List.mem_cons, List.not_mem_nil, or_false] at hx; (rcases hx with rfl | rfl) <;> simp)
        refine ⟨fun _ _ => hT, ?_⟩
        refine al_step0 (i := 9) rfl (by kernel_rfl) (op_storeN (j := 0) hS sz_48 rfl rfl rfl rfl rfl (by simp [Value.oneCell'])) ?_
        clear hS
        rintro _ w hS; (try simp only [List.nil_append, List.cons_append, List.set] at hS)
        refine ⟨no_need (by kernel_rfl), ?_⟩
        refine al_done (by kernel_rfl) ?_
        refine pq_then ?_
        refine cw_seq ?_
        refine cw_seq ?_
        refine cw_region ?_
        -- r8.0 t43 := move  t1
        refine ol_pure rfl (op_move rfl) ?_
        -- r8.1 t44 := fieldAddr [48, 0] t9
        refine ol_pure rfl (op_fieldAddr fld_48_0 rfl) ?_
        -- r8.2 t45 := load [3] t44
        refine ol_load rfl (op_load1 one_3 rfl (fun w hw => (hw.bcell (i := 0) rfl).trans rfl)) hS ?_
        -- r8.3 t46 := indexAddr [29] t43 t45
        refine ol_pure rfl (op_indexAddr sl_29 rfl rfl (by omega) (by omega) hoM) ?_
        -- r8.4 t47 := load [3] t46
        refine ol_load rfl (op_load1 one_3 rfl (fun w hw => hw.gcell (by rw [hhe]; exact hcM))) hS ?_
        -- r8.5 t48 := neq t47 C1
        refine ol_pure rfl (op_neq rfl rfl) ?_
        -- r8.6 t49 := move  t48
        refine ol_pure rfl (op_move rfl) ?_
        refine ol_split (fun h49 => ?_) (fun h49 => ?_)
        · skip
          try simp only [decide_eq_true_eq, decide_eq_false_iff_not, Bool.not_eq_true', Bool.not_eq_false', Bool.not_eq_eq_eq_not, Bool.not_true, Bool.not_false] at h49
          refine ol_guard_no rfl rfl rfl rfl ?_
          refine ol_guard_no rfl rfl rfl rfl ?_
          refine ol_guard_no rfl rfl rfl rfl ?_
          refine ol_guard_no rfl rfl rfl rfl ?_
          -- r8.11 t54 := pick  t49 Ctrue t53
          refine ol_pure rfl (op_pick_t rfl rfl) ?_
          -- r8.12 t55 := move  t54
          refine ol_pure rfl (op_move rfl) ?_
          refine ol_guard_no rfl rfl rfl rfl ?_
          refine ol_guard_no rfl rfl rfl rfl ?_
          refine ol_guard_no rfl rfl rfl rfl ?_
          refine ol_guard_no rfl rfl rfl rfl ?_
          -- r8.17 t60 := pick  t55 Ctrue t59
          refine ol_pure rfl (op_pick_t rfl rfl) ?_
          -- r8.18 t61 := move  t60
          refine ol_pure rfl (op_move rfl) ?_
          refine ol_guard_no rfl rfl rfl rfl ?_
          refine ol_guard_no rfl rfl rfl rfl ?_
          refine ol_guard_no rfl rfl rfl rfl ?_
          refine ol_guard_no rfl rfl rfl rfl ?_
          -- r8.23 t66 := pick  t61 Ctrue t65
          refine ol_pure rfl (op_pick_t rfl rfl) ?_
          refine ol_nil ?_
          refine pq_then ?_
          refine cw_cond_t rfl ?_
          refine cw_seq ?_
          refine cw_region ?_
          -- r9.0 t6 := assign  Cfalse
          refine ol_pure rfl (op_assign rfl) ?_
          refine ol_nil ?_
          refine pq_then ?_
          refine cw_ret ?_
          refine pq_ret ?_
          refine pq_in_ret ?_
          refine pq_ret ?_
          refine pq_ret ?_
          refine pq_in_ret ?_
          refine pq_ret ?_
          refine ret1 rfl rfl ?_
          -- ret2 h17t h25f h34f h49t
          have hsup : supB m heads rs[k] = false := by
            unfold supB
            rw [hvh]
            cases hp0 : hasB m rs[k].pos 0 <;> cases hq0 : hasB m rs[k].neg 2 <;> simp_all
          exact hS.sc_b (by rw [heldC, hh, heldL_stop hil hk hlt hsup])
        · skip
          try simp only [decide_eq_true_eq, decide_eq_false_iff_not, Bool.not_eq_true', Bool.not_eq_false', Bool.not_eq_eq_eq_not, Bool.not_true, Bool.not_false] at h49
          -- r8.7 t50 := move  t7 ?6=False
          refine ol_guard_pure rfl rfl rfl (op_move rfl) ?_
          -- r8.8 t51 := fieldAddr [48, 0] t9 ?6=False
          refine ol_guard_pure rfl rfl rfl (op_fieldAddr fld_48_0 rfl) ?_
          -- r8.9 t52 := load [3] t51 ?6=False
          refine ol_guard_load rfl rfl rfl (op_load1 one_3 rfl (fun w hw => (hw.bcell (i := 0) rfl).trans rfl)) hS ?_
          -- r8.10 t53 := call f55 t50 t52 ?6=False
          have hlend := SS.lend (zs := heads) [_] hS (by decide) EInt.mono (Rows.of_map (xs := heads) (f := Value.int .i64) (E := EInt) (fun y hy => ⟨rfl, by have := hrg y hy; omega⟩)) hl7
          refine ol_guard_step rfl rfl rfl (op_call_sc hS cf_55 rfl (R01_In_c (fullG _) _ (Holds.full _) _ heads rs[k].head hlend)) ?_
          clear hS
          rintro _ w ⟨rfl, hS⟩
          -- r8.11 t54 := pick  t49 Ctrue t53
          refine ol_pure rfl (op_pick_f rfl rfl) ?_
          -- r8.12 t55 := move  t54
          refine ol_pure rfl (op_move rfl) ?_
          refine ol_split (fun h55 => ?_) (fun h55 => ?_)
          · skip
            try simp only [decide_eq_true_eq, decide_eq_false_iff_not, Bool.not_eq_true', Bool.not_eq_false', Bool.not_eq_eq_eq_not, Bool.not_true, Bool.not_false] at h55
            refine ol_guard_no rfl rfl rfl rfl ?_
            refine ol_guard_no rfl rfl rfl rfl ?_
            refine ol_guard_no rfl rfl rfl rfl ?_
            refine ol_guard_no rfl rfl rfl rfl ?_
            -- r8.17 t60 := pick  t55 Ctrue t59
            refine ol_pure rfl (op_pick_t rfl rfl) ?_
            -- r8.18 t61 := move  t60
            refine ol_pure rfl (op_move rfl) ?_
            refine ol_guard_no rfl rfl rfl rfl ?_
            refine ol_guard_no rfl rfl rfl rfl ?_
            refine ol_guard_no rfl rfl rfl rfl ?_
            refine ol_guard_no rfl rfl rfl rfl ?_
            -- r8.23 t66 := pick  t61 Ctrue t65
            refine ol_pure rfl (op_pick_t rfl rfl) ?_
            refine ol_nil ?_
            refine pq_then ?_
            refine cw_cond_t rfl ?_
            refine cw_seq ?_
            refine cw_region ?_
            -- r9.0 t6 := assign  Cfalse
            refine ol_pure rfl (op_assign rfl) ?_
            refine ol_nil ?_
            refine pq_then ?_
            refine cw_ret ?_
            refine pq_ret ?_
            refine pq_in_ret ?_
            refine pq_ret ?_
            refine pq_ret ?_
            refine pq_in_ret ?_
            refine pq_ret ?_
            refine ret1 rfl rfl ?_
            -- ret2 h17t h25f h34f h49f h55t
            have hsup : supB m heads rs[k] = false := by
              unfold supB
              rw [hvh]
              cases hp0 : hasB m rs[k].pos 0 <;> cases hq0 : hasB m rs[k].neg 2 <;> simp_all
            exact hS.sc_b (by rw [heldC, hh, heldL_stop hil hk hlt hsup])
          · skip
            try simp only [decide_eq_true_eq, decide_eq_false_iff_not, Bool.not_eq_true', Bool.not_eq_false', Bool.not_eq_eq_eq_not, Bool.not_true, Bool.not_false] at h55
            -- r8.13 t56 := move  t1 ?12=False
            refine ol_guard_pure rfl rfl rfl (op_move rfl) ?_
            -- r8.14 t57 := fieldAddr [48, 1] t9 ?12=False
            refine ol_guard_pure rfl rfl rfl (op_fieldAddr fld_48_1 rfl) ?_
            -- r8.15 t58 := load [29] t57 ?12=False
            refine ol_guard_load rfl rfl rfl (op_load1 one_29 rfl (fun w hw => (hw.bcell (i := 0) rfl).trans rfl)) hS ?_
            -- r8.16 t59 := call f57 t56 t58 C0 ?12=False
            refine ol_guard_step rfl rfl rfl (op_call_sc hS cf_57 rfl (R22_has_c G _ hS.hold _ m h3 _ rs[k].pos 0 hp hrm.2.1)) ?_
            clear hS
            rintro _ w ⟨rfl, hS⟩
            -- r8.17 t60 := pick  t55 Ctrue t59
            refine ol_pure rfl (op_pick_f rfl rfl) ?_
            -- r8.18 t61 := move  t60
            refine ol_pure rfl (op_move rfl) ?_
            refine ol_split (fun h61 => ?_) (fun h61 => ?_)
            · skip
              try simp only [decide_eq_true_eq, decide_eq_false_iff_not, Bool.not_eq_true', Bool.not_eq_false', Bool.not_eq_eq_eq_not, Bool.not_true, Bool.not_false] at h61
              refine ol_guard_no rfl rfl rfl rfl ?_
              refine ol_guard_no rfl rfl rfl rfl ?_
              refine ol_guard_no rfl rfl rfl rfl ?_
              refine ol_guard_no rfl rfl rfl rfl ?_
              -- r8.23 t66 := pick  t61 Ctrue t65
              refine ol_pure rfl (op_pick_t rfl rfl) ?_
              refine ol_nil ?_
              refine pq_then ?_
              refine cw_cond_t rfl ?_
              refine cw_seq ?_
              refine cw_region ?_
              -- r9.0 t6 := assign  Cfalse
              refine ol_pure rfl (op_assign rfl) ?_
              refine ol_nil ?_
              refine pq_then ?_
              refine cw_ret ?_
              refine pq_ret ?_
              refine pq_in_ret ?_
              refine pq_ret ?_
              refine pq_ret ?_
              refine pq_in_ret ?_
              refine pq_ret ?_
              refine ret1 rfl rfl ?_
              -- ret2 h17t h25f h34f h49f h55f h61t
              have hsup : supB m heads rs[k] = false := by
                unfold supB
                rw [hvh]
                cases hp0 : hasB m rs[k].pos 0 <;> cases hq0 : hasB m rs[k].neg 2 <;> simp_all
              exact hS.sc_b (by rw [heldC, hh, heldL_stop hil hk hlt hsup])
            · skip
              try simp only [decide_eq_true_eq, decide_eq_false_iff_not, Bool.not_eq_true', Bool.not_eq_false', Bool.not_eq_eq_eq_not, Bool.not_true, Bool.not_false] at h61
              -- r8.19 t62 := move  t1 ?18=False
              refine ol_guard_pure rfl rfl rfl (op_move rfl) ?_
              -- r8.20 t63 := fieldAddr [48, 2] t9 ?18=False
              refine ol_guard_pure rfl rfl rfl (op_fieldAddr fld_48_2 rfl) ?_
              -- r8.21 t64 := load [29] t63 ?18=False
              refine ol_guard_load rfl rfl rfl (op_load1 one_29 rfl (fun w hw => (hw.bcell (i := 0) rfl).trans rfl)) hS ?_
              -- r8.22 t65 := call f57 t62 t64 C2 ?18=False
              refine ol_guard_step rfl rfl rfl (op_call_sc hS cf_57 rfl (R22_has_c G _ hS.hold _ m h3 _ rs[k].neg 2 hq hrm.2.2)) ?_
              clear hS
              rintro _ w ⟨rfl, hS⟩
              -- r8.23 t66 := pick  t61 Ctrue t65
              refine ol_pure rfl (op_pick_f rfl rfl) ?_
              refine ol_nil ?_
              refine pq_then ?_
              refine cw_cond rfl (fun h66 => ?_) (fun h66 => ?_)
              · skip
                try simp only [decide_eq_true_eq, decide_eq_false_iff_not, Bool.not_eq_true', Bool.not_eq_false', Bool.not_eq_eq_eq_not, Bool.not_true, Bool.not_false] at h66
                refine cw_seq ?_
                refine cw_region ?_
                -- r9.0 t6 := assign  Cfalse
                refine ol_pure rfl (op_assign rfl) ?_
                refine ol_nil ?_
                refine pq_then ?_
                refine cw_ret ?_
                refine pq_ret ?_
                refine pq_in_ret ?_
                refine pq_ret ?_
                refine pq_ret ?_
                refine pq_in_ret ?_
                refine pq_ret ?_
                refine ret1 rfl rfl ?_
                -- ret2 h17t h25f h34f h49f h55f h61f h66t
                have hsup : supB m heads rs[k] = false := by
                  unfold supB
                  rw [hvh]
                  cases hp0 : hasB m rs[k].pos 0 <;> cases hq0 : hasB m rs[k].neg 2 <;> simp_all
                exact hS.sc_b (by rw [heldC, hh, heldL_stop hil hk hlt hsup])
              · skip
                try simp only [decide_eq_true_eq, decide_eq_false_iff_not, Bool.not_eq_true', Bool.not_eq_false', Bool.not_eq_eq_eq_not, Bool.not_true, Bool.not_false] at h66
                have hfst : (decide (valI m rs[k].head = 1) && !decide (rs[k].head ∈ heads) && !(hasB m rs[k].pos 0 || hasB m rs[k].neg 2)) = true := by rw [hvh]; simp_all
                refine cw_skip ?_
                refine pq_then ?_
                refine cw_seq ?_
                refine cw_seq ?_
                refine cw_region ?_
                -- r10.0 t10 := assign  C0
                refine ol_pure rfl (op_assign rfl) ?_
                refine ol_nil ?_
                refine pq_then ?_
                refine cw_block ?_
                refine cw_loop (fun e w n => ∃ j : Nat, e = [(1, .slice oM m.length cM), (2, .slice oL l.length cL), (3, .pointer (some ⟨b3, 0, none⟩)), (7, .slice o7 l7 c7), (8, .int .i64 (i : Nat)), (9, .pointer (some ⟨b9, 0, none⟩)), (10, .int .i64 (j : Nat))] ∧ j ≤ rs[k].pos.length ∧ n = rs[k].pos.length - j ∧ (rs[k].pos.take j).any (fun p => !decide (valI m p = 2) && !decide (p ∈ heads)) = false ∧ SS G w0 G [.blk b9 48 [.int .i64 rs[k].head, .slice op rs[k].pos.length cp, .slice oq rs[k].neg.length cq], .row o7 l7 c7 3 1 (heads.map (Value.int .i64)), .blk b3 25 [.slice oA atoms.length cA, .slice oR rs.length cR]] w) _ _ (by exact ⟨0, rfl, Nat.zero_le _, rfl, rfl, hS⟩) ((Sub.cons rfl (Sub.cons rfl (Sub.cons rfl (Sub.cons rfl (Sub.cons rfl (Sub.cons rfl (Sub.cons rfl Sub.nil)))))))) ?_
                clear hS
                rintro e w n ⟨j, rfl, hj, rfl, hpa, hS⟩
                refine cw_seq ?_
                refine cw_seq ?_
                refine cw_region ?_
                -- r11.0 t67 := move  t10
                refine ol_pure rfl (op_move rfl) ?_
                -- r11.1 t68 := fieldAddr [48, 1] t9
                refine ol_pure rfl (op_fieldAddr fld_48_1 rfl) ?_
                -- r11.2 t69 := load [29] t68
                refine ol_load rfl (op_load1 one_29 rfl (fun w hw => (hw.bcell (i := 0) rfl).trans rfl)) hS ?_
                -- r11.3 t70 := call len t69
                refine ol_pure rfl (op_len sl_29 rfl rfl) ?_
                -- r11.4 t71 := lss t67 t70
                refine ol_pure rfl (op_lss rfl rfl) ?_
                refine ol_nil ?_
                refine pq_then ?_
                refine cw_cond rfl (fun h71 => ?_) (fun h71 => ?_)
                · skip
                  try simp only [decide_eq_true_eq, decide_eq_false_iff_not, Bool.not_eq_true', Bool.not_eq_false', Bool.not_eq_eq_eq_not, Bool.not_true, Bool.not_false] at h71
                  have hlj : j < rs[k].pos.length := by omega
                  obtain ⟨hoj, hcj, hbj⟩ := hp.int hlj
                  have hrj := hrm.2.1 _ (List.getElem_mem hlj)
                  obtain ⟨xj, hxj⟩ := Int.eq_ofNat_of_zero_le hrj.1
                  have hnj : xj < m.length := by omega
                  rw [hxj] at hcj
                  obtain ⟨hoM, hcMj, _⟩ := h3.int hnj
                  have hvj : valI m rs[k].pos[j] = m[xj] := by rw [hxj]; exact val_at hnj
                  refine cw_skip ?_
                  refine pq_then ?_
                  refine cw_seq ?_
                  refine cw_block ?_
                  refine cw_seq ?_
                  refine cw_region ?_
                  -- r13.0 t74 := move  t1
                  refine ol_pure rfl (op_move rfl) ?_
                  -- r13.1 t75 := fieldAddr [48, 1] t9
                  refine ol_pure rfl (op_fieldAddr fld_48_1 rfl) ?_
                  -- r13.2 t76 := load [29] t75
                  refine ol_load rfl (op_load1 one_29 rfl (fun w hw => (hw.bcell (i := 0) rfl).trans rfl)) hS ?_
                  -- r13.3 t77 := move  t10
                  refine ol_pure rfl (op_move rfl) ?_
                  -- r13.4 t78 := indexAddr [29] t76 t77
                  refine ol_pure rfl (op_indexN sl_29 rfl rfl (by omega) (by assumption)) ?_
                  -- r13.5 t79 := load [3] t78
                  refine ol_load rfl (op_load1 one_3 rfl (fun w hw => hw.gcell hcj)) hS ?_
                  -- r13.6 t80 := indexAddr [29] t74 t79
                  refine ol_pure rfl (op_indexN sl_29 rfl rfl (by omega) hoM) ?_
                  -- r13.7 t81 := load [3] t80
                  refine ol_load rfl (op_load1 one_3 rfl (fun w hw => hw.gcell hcMj)) hS ?_
                  -- r13.8 t82 := neq t81 C2
                  refine ol_pure rfl (op_neq rfl rfl) ?_
                  -- r13.9 t83 := move  t82
                  refine ol_pure rfl (op_move rfl) ?_
                  refine ol_split (fun h83 => ?_) (fun h83 => ?_)
                  · skip
                    try simp only [decide_eq_true_eq, decide_eq_false_iff_not, Bool.not_eq_true', Bool.not_eq_false', Bool.not_eq_eq_eq_not, Bool.not_true, Bool.not_false] at h83
                    -- r13.10 t84 := move  t7 ?9=True
                    refine ol_guard_pure rfl rfl rfl (op_move rfl) ?_
                    -- r13.11 t85 := fieldAddr [48, 1] t9 ?9=True
                    refine ol_guard_pure rfl rfl rfl (op_fieldAddr fld_48_1 rfl) ?_
                    -- r13.12 t86 := load [29] t85 ?9=True
                    refine ol_guard_load rfl rfl rfl (op_load1 one_29 rfl (fun w hw => (hw.bcell (i := 0) rfl).trans rfl)) hS ?_
                    -- r13.13 t87 := move  t10 ?9=True
                    refine ol_guard_pure rfl rfl rfl (op_move rfl) ?_
                    -- r13.14 t88 := indexAddr [29] t86 t87 ?9=True
                    refine ol_guard_pure rfl rfl rfl (op_indexN sl_29 rfl rfl (by omega) (by assumption)) ?_
                    -- r13.15 t89 := load [3] t88 ?9=True
                    refine ol_guard_load rfl rfl rfl (op_load1 one_3 rfl (fun w hw => hw.gcell hcj)) hS ?_
                    -- r13.16 t90 := call f55 t84 t89 ?9=True
                    have hlend := SS.lend (zs := heads) [_] hS (by decide) EInt.mono (Rows.of_map (xs := heads) (f := Value.int .i64) (E := EInt) (fun y hy => ⟨rfl, by have := hrg y hy; omega⟩)) hl7
                    refine ol_guard_step rfl rfl rfl (op_call_sc hS cf_55 rfl ((by rw [← hxj]; exact R01_In_c (fullG _) _ (Holds.full _) _ heads rs[k].pos[j] hlend))) ?_
                    clear hS
                    rintro _ w ⟨rfl, hS⟩
                    -- r13.17 t91 := not t90 ?9=True
                    refine ol_guard_pure rfl rfl rfl (op_not rfl) ?_
                    -- r13.18 t92 := pick  t83 t91 Cfalse
                    refine ol_pure rfl (op_pick_t rfl rfl) ?_
                    refine ol_nil ?_
                    refine pq_then ?_
                    refine cw_cond rfl (fun h92 => ?_) (fun h92 => ?_)
                    · skip
                      try simp only [decide_eq_true_eq, decide_eq_false_iff_not, Bool.not_eq_true', Bool.not_eq_false', Bool.not_eq_eq_eq_not, Bool.not_true, Bool.not_false] at h92
                      refine cw_seq ?_
                      refine cw_region ?_
                      -- r14.0 t6 := assign  Cfalse
                      refine ol_pure rfl (op_assign rfl) ?_
                      refine ol_nil ?_
                      refine pq_then ?_
                      refine cw_ret ?_
                      refine pq_in_ret ?_
                      refine pq_ret ?_
                      refine pq_ret ?_
                      refine pq_in_ret ?_
                      refine pq_ret ?_
                      refine pq_in_ret ?_
                      refine pq_ret ?_
                      refine pq_ret ?_
                      refine pq_in_ret ?_
                      refine pq_ret ?_
                      refine ret1 rfl rfl ?_
                      -- ret3 h17t h25f h34f h49f h55f h61f h66f h71t h83t h92t
                      have hsup : supB m heads rs[k] = false := by
                        unfold supB
                        rw [Pl.any_true_at (fun p => !decide (valI m p = 2) && !decide (p ∈ heads)) rs[k].pos j hlj (by rw [hvj]; simp_all)]
                        simp
                      exact hS.sc_b (by rw [heldC, hh, heldL_stop hil hk hlt hsup])
                    · skip
                      try simp only [decide_eq_true_eq, decide_eq_false_iff_not, Bool.not_eq_true', Bool.not_eq_false', Bool.not_eq_eq_eq_not, Bool.not_true, Bool.not_false] at h92
                      refine cw_skip ?_
                      refine pq_in_normal ?_
                      refine pq_then ?_
                      refine cw_region ?_
                      -- r12.0 t72 := move  t10
                      refine ol_pure rfl (op_move rfl) ?_
                      -- r12.1 t73 := add t72 C1
                      refine ol_pure rfl (op_add rfl rfl (by omega) (by omega)) ?_
                      -- r12.2 t10 := assign  t73
                      refine ol_pure rfl (op_assign rfl) ?_
                      refine ol_nil ?_
                      -- end of round 2 h17t h25f h34f h49f h55f h61f h66f h71t h83t h92f
                      refine pq_loop _ _ (by exact ⟨j + 1, rfl, by omega, rfl, by rw [Pl.any_take_succ (fun p => !decide (valI m p = 2) && !decide (p ∈ heads)) _ _ hlj, hpa, hvj]; simp_all, hS⟩) ((Sub.cons rfl (Sub.cons rfl (Sub.cons rfl (Sub.cons rfl (Sub.cons rfl (Sub.cons rfl (Sub.cons rfl Sub.nil)))))))) (by omega)
                  · skip
                    try simp only [decide_eq_true_eq, decide_eq_false_iff_not, Bool.not_eq_true', Bool.not_eq_false', Bool.not_eq_eq_eq_not, Bool.not_true, Bool.not_false] at h83
                    refine ol_guard_no rfl rfl rfl rfl ?_
                    refine ol_guard_no rfl rfl rfl rfl ?_
                    refine ol_guard_no rfl rfl rfl rfl ?_
                    refine ol_guard_no rfl rfl rfl rfl ?_
                    refine ol_guard_no rfl rfl rfl rfl ?_
                    refine ol_guard_no rfl rfl rfl rfl ?_
                    refine ol_guard_no rfl rfl rfl rfl ?_
                    refine ol_guard_no rfl rfl rfl rfl ?_
                    -- r13.18 t92 := pick  t83 t91 Cfalse
                    refine ol_pure rfl (op_pick_f rfl rfl) ?_
                    refine ol_nil ?_
                    refine pq_then ?_
                    refine cw_cond_f rfl ?_
                    refine cw_skip ?_
                    refine pq_in_normal ?_
                    refine pq_then ?_
                    refine cw_region ?_
                    -- r12.0 t72 := move  t10
                    refine ol_pure rfl (op_move rfl) ?_
                    -- r12.1 t73 := add t72 C1
                    refine ol_pure rfl (op_add rfl rfl (by omega) (by omega)) ?_
                    -- r12.2 t10 := assign  t73
                    refine ol_pure rfl (op_assign rfl) ?_
                    refine ol_nil ?_
                    -- end of round 2 h17t h25f h34f h49f h55f h61f h66f h71t h83f
                    refine pq_loop _ _ (by exact ⟨j + 1, rfl, by omega, rfl, by rw [Pl.any_take_succ (fun p => !decide (valI m p = 2) && !decide (p ∈ heads)) _ _ hlj, hpa, hvj]; simp_all, hS⟩) ((Sub.cons rfl (Sub.cons rfl (Sub.cons rfl (Sub.cons rfl (Sub.cons rfl (Sub.cons rfl (Sub.cons rfl Sub.nil)))))))) (by omega)
                · skip
                  try simp only [decide_eq_true_eq, decide_eq_false_iff_not, Bool.not_eq_true', Bool.not_eq_false', Bool.not_eq_eq_eq_not, Bool.not_true, Bool.not_false] at h71
                  have hpa2 := Pl.any_of_take (fun p => !decide (valI m p = 2) && !decide (p ∈ heads)) rs[k].pos _ (show rs[k].pos.length ≤ j by omega) hpa
                  have hsup : supB m heads rs[k] = true := by unfold supB; rw [hfst, hpa2]; rfl
                  refine cw_exit ?_
                  refine pq_exit ?_
                  refine pq_exit ?_
                  refine pq_in_exit ?_
                  refine pq_then ?_
                  refine cw_region ?_
                  -- r15.0 t93 := move  t7
                  refine ol_pure rfl (op_move rfl) ?_
                  -- r15.1 t94 := fieldAddr [48, 0] t9
                  refine ol_pure rfl (op_fieldAddr fld_48_0 rfl) ?_
                  -- r15.2 t95 := load [3] t94
                  refine ol_load rfl (op_load1 one_3 rfl (fun w hw => (hw.bcell (i := 0) rfl).trans rfl)) hS ?_
                  -- r15.3 t96 := buildSlice [29, 1] 0:t95
                  refine ol_step rfl (op_buildSlice (el := 3) (is := [0]) (xs := [.tmp 95]) (sz := 1) (cs := [.int .i64 rs[k].head]) hS rfl rfl (fun w => by kernel_rfl) rfl (by decide)) ?_
                  clear hS
                  rintro _ w ⟨s96, rfl, hS⟩
                  -- r15.4 t97 := call append t93 t96
                  refine ol_step rfl (op_append (j := 2) hS sl_29 el_3 rfl rfl rfl rfl rfl rfl (by decide) (hS.news (j := 0) rfl) (by simp [Value.oneCell']) (by omega) (by unfold maxLen; omega)) ?_
                  clear hS
                  rintro _ w ⟨o7n, c_o7n, rfl, hS⟩; (try simp only [List.nil_append, List.cons_append, List.set] at hS); replace hS := SS.drop [] hS; (try simp only [List.nil_append, List.cons_append] at hS)
                  -- r15.5 t7 := assign  t97
                  refine ol_pure rfl (op_assign rfl) ?_
                  refine ol_nil ?_
                  refine pq_in_normal ?_
                  refine pq_then ?_
                  refine cw_region ?_
                  -- r4.0 t18 := move  t8
                  refine ol_pure rfl (op_move rfl) ?_
                  -- r4.1 t19 := add t18 C1
                  refine ol_pure rfl (op_add rfl rfl (by omega) (by omega)) ?_
                  -- r4.2 t8 := assign  t19
                  refine ol_pure rfl (op_assign rfl) ?_
                  refine ol_nil ?_
                  -- end of round 1 h17t h25f h34f h49f h55f h61f h66f h71f
                  refine pq_loop _ _ (by exact (by
                      replace hS := SS.drop [] hS
                      obtain ⟨s1, s2, _, _, _⟩ := supB_iff.1 hsup
                      refine ⟨i + 1, o7n, l7 + 1, c_o7n, heads ++ [rs[k].head], rfl, by omega, rfl, by simp [hl7], nodup_snoc hnd s2, fun x hx => ?_, by rw [hh, heldL_go hil hk hlt hsup], by simpa using hS⟩
                      rcases List.mem_append.1 hx with hx | hx
                      · exact hrg x hx
                      · have : x = rs[k].head := by simpa using hx
                        rw [this]; exact hrm.1)) ((Sub.cons rfl (Sub.cons rfl (Sub.cons rfl (Sub.cons rfl (Sub.cons rfl Sub.nil)))))) (by omega)
  · skip
    try simp only [decide_eq_true_eq, decide_eq_false_iff_not, Bool.not_eq_true', Bool.not_eq_false', Bool.not_eq_eq_eq_not, Bool.not_true, Bool.not_false] at h17
    rw [List.drop_eq_nil_of_le (show l.length ≤ i by omega)] at hh
    have hh2 : heldL rs m [] l = some heads := hh
    refine cw_exit ?_
    refine pq_exit ?_
    refine pq_exit ?_
    refine pq_in_exit ?_
    refine pq_then ?_
    refine cw_seq ?_
    refine cw_region ?_
    -- r16.0 t11 := assign  C0
    refine ol_pure rfl (op_assign rfl) ?_
    refine ol_nil ?_
    refine pq_then ?_
    refine cw_seq ?_
    refine cw_seq ?_
    refine cw_region ?_
    -- r17.0 t12 := assign  C0
    refine ol_pure rfl (op_assign rfl) ?_
    refine ol_nil ?_
    refine pq_then ?_
    refine cw_block ?_
    refine cw_loop (fun e w n => ∃ k c : Nat, e = [(1, .slice oM m.length cM), (7, .slice o7 l7 c7), (11, .int .i64 (c : Nat)), (12, .int .i64 (k : Nat))] ∧ k ≤ m.length ∧ n = m.length - k ∧ c = (m.take k).countP (fun v => decide (v = 1)) ∧ SS G w0 G [.row o7 l7 c7 3 1 (heads.map (Value.int .i64)), .blk b3 25 [.slice oA atoms.length cA, .slice oR rs.length cR]] w) _ _ (by exact ⟨0, 0, rfl, Nat.zero_le _, rfl, rfl, hS⟩) ((Sub.cons rfl (Sub.cons rfl (Sub.cons rfl (Sub.cons rfl Sub.nil))))) ?_
    clear hS
    rintro e w n ⟨k, c, rfl, hk, rfl, hc, hS⟩
    refine cw_seq ?_
    refine cw_seq ?_
    refine cw_region ?_
    -- r18.0 t98 := move  t12
    refine ol_pure rfl (op_move rfl) ?_
    -- r18.1 t99 := move  t1
    refine ol_pure rfl (op_move rfl) ?_
    -- r18.2 t100 := call len t99
    refine ol_pure rfl (op_len sl_29 rfl rfl) ?_
    -- r18.3 t101 := lss t98 t100
    refine ol_pure rfl (op_lss rfl rfl) ?_
    refine ol_nil ?_
    refine pq_then ?_
    refine cw_cond rfl (fun h101 => ?_) (fun h101 => ?_)
    · skip
      try simp only [decide_eq_true_eq, decide_eq_false_iff_not, Bool.not_eq_true', Bool.not_eq_false', Bool.not_eq_eq_eq_not, Bool.not_true, Bool.not_false] at h101
      have hkl : k < m.length := by omega
      obtain ⟨hoM, hcM, _⟩ := h3.int hkl
      have hos := openN_succ hkl
      have hon := openN_le m k
      refine cw_skip ?_
      refine pq_then ?_
      refine cw_seq ?_
      refine cw_block ?_
      refine cw_seq ?_
      refine cw_region ?_
      -- r20.0 t104 := move  t1
      refine ol_pure rfl (op_move rfl) ?_
      -- r20.1 t105 := move  t12
      refine ol_pure rfl (op_move rfl) ?_
      -- r20.2 t106 := indexAddr [29] t104 t105
      refine ol_pure rfl (op_indexN sl_29 rfl rfl (by omega) (by assumption)) ?_
      -- r20.3 t107 := load [3] t106
      refine ol_load rfl (op_load1 one_3 rfl (fun w hw => hw.gcell hcM)) hS ?_
      -- r20.4 t108 := eql t107 C1
      refine ol_pure rfl (op_eql rfl rfl) ?_
      refine ol_nil ?_
      refine pq_then ?_
      refine cw_cond rfl (fun h108 => ?_) (fun h108 => ?_)
      · skip
        try simp only [decide_eq_true_eq, decide_eq_false_iff_not, Bool.not_eq_true', Bool.not_eq_false', Bool.not_eq_eq_eq_not, Bool.not_true, Bool.not_false] at h108
        refine cw_region ?_
        -- r21.0 t109 := move  t11
        refine ol_pure rfl (op_move rfl) ?_
        -- r21.1 t110 := add t109 C1
        refine ol_pure rfl (op_add rfl rfl (by omega) (by omega)) ?_
        -- r21.2 t11 := assign  t110
        refine ol_pure rfl (op_assign rfl) ?_
        refine ol_nil ?_
        refine pq_in_normal ?_
        refine pq_then ?_
        refine cw_region ?_
        -- r19.0 t102 := move  t12
        refine ol_pure rfl (op_move rfl) ?_
        -- r19.1 t103 := add t102 C1
        refine ol_pure rfl (op_add rfl rfl (by omega) (by omega)) ?_
        -- r19.2 t12 := assign  t103
        refine ol_pure rfl (op_assign rfl) ?_
        refine ol_nil ?_
        -- end of round 3 h17f h101t h108t
        refine pq_loop _ _ (by exact ⟨k + 1, c + 1, rfl, by omega, rfl, by rw [hos, if_pos h108, hc], hS⟩) ((Sub.cons rfl (Sub.cons rfl (Sub.cons rfl (Sub.cons rfl Sub.nil))))) (by omega)
      · skip
        try simp only [decide_eq_true_eq, decide_eq_false_iff_not, Bool.not_eq_true', Bool.not_eq_false', Bool.not_eq_eq_eq_not, Bool.not_true, Bool.not_false] at h108
        refine cw_skip ?_
        refine pq_in_normal ?_
        refine pq_then ?_
        refine cw_region ?_
        -- r19.0 t102 := move  t12
        refine ol_pure rfl (op_move rfl) ?_
        -- r19.1 t103 := add t102 C1
        refine ol_pure rfl (op_add rfl rfl (by omega) (by omega)) ?_
        -- r19.2 t12 := assign  t103
        refine ol_pure rfl (op_assign rfl) ?_
        refine ol_nil ?_
        -- end of round 3 h17f h101t h108f
        refine pq_loop _ _ (by exact ⟨k + 1, c, rfl, by omega, rfl, by rw [hos, if_neg h108, hc]; rfl, hS⟩) ((Sub.cons rfl (Sub.cons rfl (Sub.cons rfl (Sub.cons rfl Sub.nil))))) (by omega)
    · skip
      try simp only [decide_eq_true_eq, decide_eq_false_iff_not, Bool.not_eq_true', Bool.not_eq_false', Bool.not_eq_eq_eq_not, Bool.not_true, Bool.not_false] at h101
      refine cw_exit ?_
      refine pq_exit ?_
      refine pq_exit ?_
      refine pq_in_exit ?_
      refine pq_then ?_
      refine cw_seq ?_
      refine cw_region ?_
      -- r22.0 t111 := move  t11
      refine ol_pure rfl (op_move rfl) ?_
      -- r22.1 t112 := move  t7
      refine ol_pure rfl (op_move rfl) ?_
      -- r22.2 t113 := call len t112
      refine ol_pure rfl (op_len sl_29 rfl rfl) ?_
      -- r22.3 t114 := eql t111 t113
      refine ol_pure rfl (op_eql rfl rfl) ?_
      -- r22.4 t6 := assign  t114
      refine ol_pure rfl (op_assign rfl) ?_
      refine ol_nil ?_
      refine pq_then ?_
      refine cw_ret ?_
      refine ret1 rfl rfl ?_
      -- ret4 h17f h101f
      rw [List.take_of_length_le (by omega)] at hc
      exact hS.sc_b (by rw [heldC, hh2]; exact decide_eq_decide.2 (by rw [hc, openN]; omega))
set_option maxRecDepth 100000 in
set_option maxHeartbeats 2000000 in

theorem R22_Check_c (G : GH) (w0 : World) (hG : Holds G w0) {α : Type} {E : ER α} (hE : EMono E) (va vr : Value) (atoms : List α) (rs : List Rule) (h1 : RSl 1 E G va atoms) (h2 : RSl 3 ERule G vr rs) (hP : PrOk atoms.length rs) (vs vh : Value) (l : List Step) (hs : List Int) (h5 : RSl 2 EStep G vs l) (h6 : RSl 1 EInt G vh hs) :
    Calls Try.prog 18 #[.agg #[va, vr], .agg #[vs, vh]] w0 (Rt noG w0 (fun G v => ∃ vm, v = .tuple #[vm, .bool (checkI rs atoms.length l hs).isSome] ∧ RSl 1 EInt G vm ((checkI rs atoms.length l hs).getD []))) := by
  obtain ⟨oA, cA, rfl, hlA, hmA⟩ := h1.elim
  obtain ⟨oR, cR, rfl, hlR, hmR⟩ := h2.elim
  have hle1 := h1.le
  have hle2 := h2.le
  have hPn := hP.n_le
  have hPm := hP.m_le
  obtain ⟨oL, cL, rfl, hlL, hmL⟩ := h5.elim
  obtain ⟨oH, cH, rfl, hlH, hmH⟩ := h6.elim
  have hle := partly_le (rs := rs) l (startI atoms.length)
  have hpl := partly_len (rs := rs) l (startI atoms.length)
  rw [show (startI atoms.length).length = atoms.length from by simp [startI]] at hpl
  have hok1 : ∀ r ∈ rs, RuleOk (partly rs (startI atoms.length) l).1.length r := fun r hr => by rw [hpl]; exact (hP.rule r hr).1
  have hheld := heldC_eq (l := hs) hok1
  refine enter Try.func18 rfl (N := 61) rfl (Nat.le_of_ble_eq_true rfl) ?_
  have hS := SS.init hG
  refine cw_seq ?_
  refine cw_region ?_
  -- r0.0 t2 := box [25] t0
  refine ol_step rfl (op_box hS rfl rfl) ?_
  clear hS
  rintro _ w ⟨b2, rfl, hS⟩
  -- r0.1 t3 := box [31] t1
  refine ol_step rfl (op_box hS rfl rfl) ?_
  clear hS
  rintro _ w ⟨b3, rfl, hS⟩
  -- r0.2 t4 := assign  C(slice (none Addr) 0 0)
  refine ol_pure rfl (op_assign rfl) ?_
  -- r0.3 t5 := assign  Cfalse
  refine ol_pure rfl (op_assign rfl) ?_
  refine ol_nil ?_
  refine pq_then ?_
  refine cw_seq ?_
  refine cw_region ?_
  -- r1.0 t11 := load [25] t2
  refine ol_load rfl (op_loadN agg_25 rfl (by rfl) (fun w hw k u hk => (hw.bcell (i := 1) rfl).trans hk)) hS ?_
  -- r1.1 t12 := fieldAddr [31, 0] t3
  refine ol_pure rfl (op_fieldAddr fld_31_0 rfl) ?_
  -- r1.2 t13 := load [28] t12
  refine ol_load rfl (op_load1 one_28 rfl (fun w hw => (hw.bcell (i := 0) rfl).trans rfl)) hS ?_
  -- r1.3 t14 := call f20 t11 t13
  refine ol_step rfl (op_call_fr hS cf_20 rfl (R22_Partly_c _ _ hS.hold hE _ _ atoms rs h1 h2 hP _ l h5)) ?_
  clear hS
  rintro v14 w ⟨F14, G14, hR14, hF14, hf14, hl14, hS⟩
  obtain ⟨vm, hv, hM⟩ := hR14
  obtain ⟨oM, cM, rfl, _, _⟩ := hM.elimN (n := atoms.length) hpl
  subst hv
  have hM0 := hM.mono EInt.mono hf14
  -- r1.4 t10 := move  t14
  refine ol_pure rfl (op_move rfl) ?_
  -- r1.5 t15 := extract [0] t10
  refine ol_pure rfl (op_extract (vs := [.slice oM atoms.length cM, .int .i64 ((partly rs (startI atoms.length) l).2 : Nat)]) rfl rfl) ?_
  -- r1.6 t16 := extract [1] t10
  refine ol_pure rfl (op_extract (vs := [.slice oM atoms.length cM, .int .i64 ((partly rs (startI atoms.length) l).2 : Nat)]) rfl rfl) ?_
  -- r1.7 t6 := assign  t15
  refine ol_pure rfl (op_assign rfl) ?_
  -- r1.8 t7 := assign  t16
  refine ol_pure rfl (op_assign rfl) ?_
  refine ol_nil ?_
  refine pq_then ?_
  refine cw_seq ?_
  refine cw_seq ?_
  refine cw_region ?_
  -- r2.0 t17 := move  t7
  refine ol_pure rfl (op_move rfl) ?_
  -- r2.1 t18 := fieldAddr [31, 0] t3
  refine ol_pure rfl (op_fieldAddr fld_31_0 rfl) ?_
  -- r2.2 t19 := load [28] t18
  refine ol_load rfl (op_load1 one_28 rfl (fun w hw => (hw.bcell (i := 0) rfl).trans rfl)) hS ?_
  -- r2.3 t20 := call len t19
  refine ol_pure rfl (op_len sl_28 rfl rfl) ?_
  -- r2.4 t21 := lss t17 t20
  refine ol_pure rfl (op_lss rfl rfl) ?_
  -- r2.5 t22 := move  t21
  refine ol_pure rfl (op_move rfl) ?_
  refine ol_split (fun h22 => ?_) (fun h22 => ?_)
  · skip
    try simp only [decide_eq_true_eq, decide_eq_false_iff_not, Bool.not_eq_true', Bool.not_eq_false', Bool.not_eq_eq_eq_not, Bool.not_true, Bool.not_false] at h22
    refine ol_guard_no rfl rfl rfl rfl ?_
    refine ol_guard_no rfl rfl rfl rfl ?_
    refine ol_guard_no rfl rfl rfl rfl ?_
    refine ol_guard_no rfl rfl rfl rfl ?_
    refine ol_guard_no rfl rfl rfl rfl ?_
    refine ol_guard_no rfl rfl rfl rfl ?_
    -- r2.12 t29 := pick  t22 Ctrue t28
    refine ol_pure rfl (op_pick_t rfl rfl) ?_
    refine ol_nil ?_
    refine pq_then ?_
    refine cw_cond_t rfl ?_
    refine cw_seq ?_
    refine cw_region ?_
    -- r3.0 t4 := assign  C(slice (none Addr) 0 0)
    refine ol_pure rfl (op_assign rfl) ?_
    -- r3.1 t5 := assign  Cfalse
    refine ol_pure rfl (op_assign rfl) ?_
    refine ol_nil ?_
    refine pq_then ?_
    refine cw_ret ?_
    refine pq_ret ?_
    refine ret2 rfl rfl rfl ?_
    -- ret1 h22t
    have hck : (checkI rs atoms.length l hs) = none := by unfold checkI; rw [if_neg (fun hh => by have := hh.1; omega)]
    exact hS.rt_fr (F := noG) (fun _ _ h => by cases h) (fun _ _ => rfl) ⟨_, by rw [hck]; rfl, by rw [hck]; exact RSl.nil _⟩
  · skip
    try simp only [decide_eq_true_eq, decide_eq_false_iff_not, Bool.not_eq_true', Bool.not_eq_false', Bool.not_eq_eq_eq_not, Bool.not_true, Bool.not_false] at h22
    -- r2.6 t23 := load [25] t2 ?5=False
    refine ol_guard_load rfl rfl rfl (op_loadN agg_25 rfl (by rfl) (fun w hw k u hk => (hw.bcell (i := 1) rfl).trans hk)) hS ?_
    -- r2.7 t24 := move  t6 ?5=False
    refine ol_guard_pure rfl rfl rfl (op_move rfl) ?_
    -- r2.8 t25 := fieldAddr [31, 1] t3 ?5=False
    refine ol_guard_pure rfl rfl rfl (op_fieldAddr fld_31_1 rfl) ?_
    -- r2.9 t26 := load [29] t25 ?5=False
    refine ol_guard_load rfl rfl rfl (op_load1 one_29 rfl (fun w hw => (hw.bcell (i := 0) rfl).trans rfl)) hS ?_
    -- r2.10 t27 := call f35 t23 t24 t26 ?5=False
    refine ol_guard_step rfl rfl rfl (op_call_sc hS cf_35 rfl (R22_held_c _ _ hS.hold hE _ _ atoms rs (h1.mono hE hl14) (h2.mono ERule.mono hl14) hP _ (partly rs (startI atoms.length) l).1 hM0 hpl _ hs (h6.mono EInt.mono hl14))) ?_
    clear hS
    rintro _ w ⟨rfl, hS⟩
    -- r2.11 t28 := not t27 ?5=False
    refine ol_guard_pure rfl rfl rfl (op_not rfl) ?_
    -- r2.12 t29 := pick  t22 Ctrue t28
    refine ol_pure rfl (op_pick_f rfl rfl) ?_
    refine ol_nil ?_
    refine pq_then ?_
    refine cw_cond rfl (fun h29 => ?_) (fun h29 => ?_)
    · skip
      try simp only [decide_eq_true_eq, decide_eq_false_iff_not, Bool.not_eq_true', Bool.not_eq_false', Bool.not_eq_eq_eq_not, Bool.not_true, Bool.not_false] at h29
      refine cw_seq ?_
      refine cw_region ?_
      -- r3.0 t4 := assign  C(slice (none Addr) 0 0)
      refine ol_pure rfl (op_assign rfl) ?_
      -- r3.1 t5 := assign  Cfalse
      refine ol_pure rfl (op_assign rfl) ?_
      refine ol_nil ?_
      refine pq_then ?_
      refine cw_ret ?_
      refine pq_ret ?_
      refine ret2 rfl rfl rfl ?_
      -- ret1 h22f h29t
      have hck : (checkI rs atoms.length l hs) = none := by unfold checkI; rw [if_neg (fun hh => by have := hh.2.1; simp_all)]
      exact hS.rt_fr (F := noG) (fun _ _ h => by cases h) (fun _ _ => rfl) ⟨_, by rw [hck]; rfl, by rw [hck]; exact RSl.nil _⟩
    · skip
      try simp only [decide_eq_true_eq, decide_eq_false_iff_not, Bool.not_eq_true', Bool.not_eq_false', Bool.not_eq_eq_eq_not, Bool.not_true, Bool.not_false] at h29
      refine cw_skip ?_
      refine pq_then ?_
      refine cw_seq ?_
      refine cw_seq ?_
      refine cw_region ?_
      -- r4.0 t8 := assign  C0
      refine ol_pure rfl (op_assign rfl) ?_
      refine ol_nil ?_
      refine pq_then ?_
      refine cw_block ?_
      refine cw_loop (fun e w n => ∃ k : Nat, e = [(2, .pointer (some ⟨b2, 0, none⟩)), (6, .slice oM atoms.length cM), (8, .int .i64 (k : Nat))] ∧ k ≤ rs.length ∧ n = rs.length - k ∧ (rs.take k).any (fun r : Rule => decide (valI (partly rs (startI atoms.length) l).1 r.head = 1) && firesB (partly rs (startI atoms.length) l).1 r) = false ∧ SS G w0 G14 [.blk b3 31 [.slice oL l.length cL, .slice oH hs.length cH], .blk b2 25 [.slice oA atoms.length cA, .slice oR rs.length cR]] w) _ _ (by exact ⟨0, rfl, Nat.zero_le _, rfl, rfl, hS⟩) ((Sub.cons rfl (Sub.cons rfl (Sub.cons rfl Sub.nil)))) ?_
      clear hS
      rintro e w n ⟨k, rfl, hk, rfl, hpa, hS⟩
      refine cw_seq ?_
      refine cw_seq ?_
      refine cw_region ?_
      -- r5.0 t30 := move  t8
      refine ol_pure rfl (op_move rfl) ?_
      -- r5.1 t31 := fieldAddr [25, 1] t2
      refine ol_pure rfl (op_fieldAddr fld_25_1 rfl) ?_
      -- r5.2 t32 := load [23] t31
      refine ol_load rfl (op_load1 one_23 rfl (fun w hw => (hw.bcell (i := 1) rfl).trans rfl)) hS ?_
      -- r5.3 t33 := call len t32
      refine ol_pure rfl (op_len sl_23 rfl rfl) ?_
      -- r5.4 t34 := lss t30 t33
      refine ol_pure rfl (op_lss rfl rfl) ?_
      refine ol_nil ?_
      refine pq_then ?_
      refine cw_cond rfl (fun h34 => ?_) (fun h34 => ?_)
      · skip
        try simp only [decide_eq_true_eq, decide_eq_false_iff_not, Bool.not_eq_true', Bool.not_eq_false', Bool.not_eq_eq_eq_not, Bool.not_true, Bool.not_false] at h34
        have hlt : k < rs.length := by omega
        have hrk := (hP.rule _ (List.getElem_mem hlt)).1
        obtain ⟨hoa, cs, hcl, ⟨p, q, rfl, hp, hq, hhd⟩, hcells⟩ := h2.el hlt
        obtain ⟨op, cp, hpe, hlp, hmp⟩ := hp.elim
        obtain ⟨oq, cq, hqe, hlq, hmq⟩ := hq.elim
        subst hpe
        subst hqe
        have hple := hp.le
        have hrm := hok1 _ (List.getElem_mem hlt)
        obtain ⟨hd, hhe⟩ := Int.eq_ofNat_of_zero_le hrk.1.1
        have hhn : hd < (partly rs (startI atoms.length) l).1.length := by have := hrm.1.2; omega
        have hrk1 := hrk.1
        obtain ⟨hoM, hcM, _⟩ := hM0.int hhn
        have hvh : valI (partly rs (startI atoms.length) l).1 rs[k].head = (partly rs (startI atoms.length) l).1[hd] := by rw [hhe]; exact val_at hhn
        refine cw_skip ?_
        refine pq_then ?_
        refine cw_seq ?_
        refine cw_block ?_
        refine cw_seq ?_
        refine cw_region ?_
        -- r7.0 t37 := fieldAddr [25, 1] t2
        refine ol_pure rfl (op_fieldAddr fld_25_1 rfl) ?_
        -- r7.1 t38 := load [23] t37
        refine ol_load rfl (op_load1 one_23 rfl (fun w hw => (hw.bcell (i := 1) rfl).trans rfl)) hS ?_
        -- r7.2 t39 := move  t8
        refine ol_pure rfl (op_move rfl) ?_
        -- r7.3 t40 := indexAddr [23] t38 t39
        refine ol_pure rfl (op_indexN sl_23 rfl rfl (by omega) (by assumption)) ?_
        -- r7.4 t41 := load [48] t40
        refine ol_load rfl (op_loadN agg_48 rfl (by rfl) (fun w hw k u hk => hw.gcell0 (hcells k u hk))) hS ?_
        -- r7.5 t9 := alloc [48] 
        refine ol_step rfl (op_alloc hS el_48 rfl) ?_
        clear hS
        rintro _ w ⟨b9, rfl, hS⟩
        -- r7.6 _ := store [48] t9 t41
        refine ol_step0  (op_storeN (j := 0) hS sz_48 rfl rfl rfl rfl rfl (by simp [Value.oneCell'])) ?_
        clear hS
        rintro _ w hS; (try simp only [List.nil_append, List.cons_append, List.set] at hS)
        refine ol_nil ?_
        refine pq_then ?_
        refine cw_seq ?_
        refine cw_region ?_
        -- r8.0 t42 := move  t6
        refine ol_pure rfl (op_move rfl) ?_
        -- r8.1 t43 := fieldAddr [48, 0] t9
        refine ol_pure rfl (op_fieldAddr fld_48_0 rfl) ?_
        -- r8.2 t44 := load [3] t43
        refine ol_load rfl (op_load1 one_3 rfl (fun w hw => (hw.bcell (i := 0) rfl).trans rfl)) hS ?_
        -- r8.3 t45 := indexAddr [29] t42 t44
        refine ol_pure rfl (op_indexAddr sl_29 rfl rfl (by omega) (by omega) hoM) ?_
        -- r8.4 t46 := load [3] t45
        refine ol_load rfl (op_load1 one_3 rfl (fun w hw => hw.gcell (by rw [hhe]; exact hcM))) hS ?_
        -- r8.5 t47 := eql t46 C1
        refine ol_pure rfl (op_eql rfl rfl) ?_
        -- r8.6 t48 := move  t47
        refine ol_pure rfl (op_move rfl) ?_
        refine ol_split (fun h48 => ?_) (fun h48 => ?_)
        · skip
          try simp only [decide_eq_true_eq, decide_eq_false_iff_not, Bool.not_eq_true', Bool.not_eq_false', Bool.not_eq_eq_eq_not, Bool.not_true, Bool.not_false] at h48
          -- r8.7 t49 := move  t6 ?6=True
          refine ol_guard_pure rfl rfl rfl (op_move rfl) ?_
          -- r8.8 t50 := fieldAddr [48, 1] t9 ?6=True
          refine ol_guard_pure rfl rfl rfl (op_fieldAddr fld_48_1 rfl) ?_
          -- r8.9 t51 := load [29] t50 ?6=True
          refine ol_guard_load rfl rfl rfl (op_load1 one_29 rfl (fun w hw => (hw.bcell (i := 0) rfl).trans rfl)) hS ?_
          -- r8.10 t52 := call f36 t49 t51 C2 ?6=True
          refine ol_guard_step rfl rfl rfl (op_call_sc hS cf_36 rfl (R22_are_c _ _ hS.hold _ (partly rs (startI atoms.length) l).1 (by rw [show (Value.slice oM atoms.length cM) = .slice oM atoms.length cM from rfl]; exact hM0) _ rs[k].pos 2 (hp.mono EInt.mono hl14) hrm.2.1)) ?_
          clear hS
          rintro _ w ⟨rfl, hS⟩
          -- r8.11 t53 := pick  t48 t52 Cfalse
          refine ol_pure rfl (op_pick_t rfl rfl) ?_
          -- r8.12 t54 := move  t53
          refine ol_pure rfl (op_move rfl) ?_
          refine ol_split (fun h54 => ?_) (fun h54 => ?_)
          · skip
            try simp only [decide_eq_true_eq, decide_eq_false_iff_not, Bool.not_eq_true', Bool.not_eq_false', Bool.not_eq_eq_eq_not, Bool.not_true, Bool.not_false] at h54
            -- r8.13 t55 := move  t6 ?12=True
            refine ol_guard_pure rfl rfl rfl (op_move rfl) ?_
            -- r8.14 t56 := fieldAddr [48, 2] t9 ?12=True
            refine ol_guard_pure rfl rfl rfl (op_fieldAddr fld_48_2 rfl) ?_
            -- r8.15 t57 := load [29] t56 ?12=True
            refine ol_guard_load rfl rfl rfl (op_load1 one_29 rfl (fun w hw => (hw.bcell (i := 0) rfl).trans rfl)) hS ?_
            -- r8.16 t58 := call f36 t55 t57 C0 ?12=True
            refine ol_guard_step rfl rfl rfl (op_call_sc hS cf_36 rfl (R22_are_c _ _ hS.hold _ (partly rs (startI atoms.length) l).1 hM0 _ rs[k].neg 0 (hq.mono EInt.mono hl14) hrm.2.2)) ?_
            clear hS
            rintro _ w ⟨rfl, hS⟩
            -- r8.17 t59 := pick  t54 t58 Cfalse
            refine ol_pure rfl (op_pick_t rfl rfl) ?_
            refine ol_nil ?_
            refine pq_then ?_
            refine cw_cond rfl (fun h59 => ?_) (fun h59 => ?_)
            · skip
              try simp only [decide_eq_true_eq, decide_eq_false_iff_not, Bool.not_eq_true', Bool.not_eq_false', Bool.not_eq_eq_eq_not, Bool.not_true, Bool.not_false] at h59
              refine cw_seq ?_
              refine cw_region ?_
              -- r9.0 t4 := assign  C(slice (none Addr) 0 0)
              refine ol_pure rfl (op_assign rfl) ?_
              -- r9.1 t5 := assign  Cfalse
              refine ol_pure rfl (op_assign rfl) ?_
              refine ol_nil ?_
              refine pq_then ?_
              refine cw_ret ?_
              refine pq_in_ret ?_
              refine pq_ret ?_
              refine pq_ret ?_
              refine pq_in_ret ?_
              refine pq_ret ?_
              refine ret2 rfl rfl rfl ?_
              -- ret2 h22f h29f h34t h48t h54t h59t
              have hck : (checkI rs atoms.length l hs) = none := by
                unfold checkI
                rw [if_neg (fun hh => ?_)]
                have h3 := hh.2.2
                unfold leftB at h3
                rw [Pl.any_true_at (fun r : Rule => decide (valI (partly rs (startI atoms.length) l).1 r.head = 1) && firesB (partly rs (startI atoms.length) l).1 r) rs k hlt (by rw [hvh]; simp_all [firesB])] at h3
                cases h3
              exact hS.rt_fr (F := noG) (fun _ _ h => by cases h) (fun _ _ => rfl) ⟨_, by rw [hck]; rfl, by rw [hck]; exact RSl.nil _⟩
            · skip
              try simp only [decide_eq_true_eq, decide_eq_false_iff_not, Bool.not_eq_true', Bool.not_eq_false', Bool.not_eq_eq_eq_not, Bool.not_true, Bool.not_false] at h59
              refine cw_skip ?_
              refine pq_in_normal ?_
              refine pq_then ?_
              refine cw_region ?_
              -- r6.0 t35 := move  t8
              refine ol_pure rfl (op_move rfl) ?_
              -- r6.1 t36 := add t35 C1
              refine ol_pure rfl (op_add rfl rfl (by omega) (by omega)) ?_
              -- r6.2 t8 := assign  t36
              refine ol_pure rfl (op_assign rfl) ?_
              refine ol_nil ?_
              -- end of round 1 h22f h29f h34t h48t h54t h59f
              refine pq_loop _ _ (by exact (by
                  replace hS := SS.drop [] hS
                  exact ⟨k + 1, rfl, by omega, rfl, by rw [Pl.any_take_succ (fun r : Rule => decide (valI (partly rs (startI atoms.length) l).1 r.head = 1) && firesB (partly rs (startI atoms.length) l).1 r) _ _ hlt, hpa, hvh]; simp_all [firesB], hS⟩)) ((Sub.cons rfl (Sub.cons rfl (Sub.cons rfl Sub.nil)))) (by omega)
          · skip
            try simp only [decide_eq_true_eq, decide_eq_false_iff_not, Bool.not_eq_true', Bool.not_eq_false', Bool.not_eq_eq_eq_not, Bool.not_true, Bool.not_false] at h54
            refine ol_guard_no rfl rfl rfl rfl ?_
            refine ol_guard_no rfl rfl rfl rfl ?_
            refine ol_guard_no rfl rfl rfl rfl ?_
            refine ol_guard_no rfl rfl rfl rfl ?_
            -- r8.17 t59 := pick  t54 t58 Cfalse
            refine ol_pure rfl (op_pick_f rfl rfl) ?_
            refine ol_nil ?_
            refine pq_then ?_
            refine cw_cond_f rfl ?_
            refine cw_skip ?_
            refine pq_in_normal ?_
            refine pq_then ?_
            refine cw_region ?_
            -- r6.0 t35 := move  t8
            refine ol_pure rfl (op_move rfl) ?_
            -- r6.1 t36 := add t35 C1
            refine ol_pure rfl (op_add rfl rfl (by omega) (by omega)) ?_
            -- r6.2 t8 := assign  t36
            refine ol_pure rfl (op_assign rfl) ?_
            refine ol_nil ?_
            -- end of round 1 h22f h29f h34t h48t h54f
            refine pq_loop _ _ (by exact (by
                replace hS := SS.drop [] hS
                exact ⟨k + 1, rfl, by omega, rfl, by rw [Pl.any_take_succ (fun r : Rule => decide (valI (partly rs (startI atoms.length) l).1 r.head = 1) && firesB (partly rs (startI atoms.length) l).1 r) _ _ hlt, hpa, hvh]; simp_all [firesB], hS⟩)) ((Sub.cons rfl (Sub.cons rfl (Sub.cons rfl Sub.nil)))) (by omega)
        · skip
          try simp only [decide_eq_true_eq, decide_eq_false_iff_not, Bool.not_eq_true', Bool.not_eq_false', Bool.not_eq_eq_eq_not, Bool.not_true, Bool.not_false] at h48
          refine ol_guard_no rfl rfl rfl rfl ?_
          refine ol_guard_no rfl rfl rfl rfl ?_
          refine ol_guard_no rfl rfl rfl rfl ?_
          refine ol_guard_no rfl rfl rfl rfl ?_
          -- r8.11 t53 := pick  t48 t52 Cfalse
          refine ol_pure rfl (op_pick_f rfl rfl) ?_
          -- r8.12 t54 := move  t53
          refine ol_pure rfl (op_move rfl) ?_
          refine ol_guard_no rfl rfl rfl rfl ?_
          refine ol_guard_no rfl rfl rfl rfl ?_
          refine ol_guard_no rfl rfl rfl rfl ?_
          refine ol_guard_no rfl rfl rfl rfl ?_
          -- r8.17 t59 := pick  t54 t58 Cfalse
          refine ol_pure rfl (op_pick_f rfl rfl) ?_
          refine ol_nil ?_
          refine pq_then ?_
          refine cw_cond_f rfl ?_
          refine cw_skip ?_
          refine pq_in_normal ?_
          refine pq_then ?_
          refine cw_region ?_
          -- r6.0 t35 := move  t8
          refine ol_pure rfl (op_move rfl) ?_
          -- r6.1 t36 := add t35 C1
          refine ol_pure rfl (op_add rfl rfl (by omega) (by omega)) ?_
          -- r6.2 t8 := assign  t36
          refine ol_pure rfl (op_assign rfl) ?_
          refine ol_nil ?_
          -- end of round 1 h22f h29f h34t h48f
          refine pq_loop _ _ (by exact (by
              replace hS := SS.drop [] hS
              exact ⟨k + 1, rfl, by omega, rfl, by rw [Pl.any_take_succ (fun r : Rule => decide (valI (partly rs (startI atoms.length) l).1 r.head = 1) && firesB (partly rs (startI atoms.length) l).1 r) _ _ hlt, hpa, hvh]; simp_all [firesB], hS⟩)) ((Sub.cons rfl (Sub.cons rfl (Sub.cons rfl Sub.nil)))) (by omega)
      · skip
        try simp only [decide_eq_true_eq, decide_eq_false_iff_not, Bool.not_eq_true', Bool.not_eq_false', Bool.not_eq_eq_eq_not, Bool.not_true, Bool.not_false] at h34
        refine cw_exit ?_
        refine pq_exit ?_
        refine pq_exit ?_
        refine pq_in_exit ?_
        refine pq_then ?_
        refine cw_seq ?_
        refine cw_region ?_
        -- r10.0 t60 := move  t6
        refine ol_pure rfl (op_move rfl) ?_
        -- r10.1 t4 := assign  t60
        refine ol_pure rfl (op_assign rfl) ?_
        -- r10.2 t5 := assign  Ctrue
        refine ol_pure rfl (op_assign rfl) ?_
        refine ol_nil ?_
        refine pq_then ?_
        refine cw_ret ?_
        refine ret2 rfl rfl rfl ?_
        -- ret3 h22f h29f h34f
        have hck : (checkI rs atoms.length l hs) = some (partly rs (startI atoms.length) l).1 := by
          unfold checkI
          rw [if_pos ⟨by omega, by rw [← hheld]; simpa using h29, Pl.any_of_take (fun r : Rule => decide (valI (partly rs (startI atoms.length) l).1 r.head = 1) && firesB (partly rs (startI atoms.length) l).1 r) rs _ (by omega) hpa⟩]
        exact hS.rt_fr hf14 hF14 ⟨_, by rw [hck]; rfl, by rw [hck]; exact hM⟩
end Go.Proofs.Ytbpmkidaoemebaa.K
