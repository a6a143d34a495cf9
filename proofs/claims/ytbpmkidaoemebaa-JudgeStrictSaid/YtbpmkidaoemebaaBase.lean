/-
  Rows of numbers and of Bools: in, all, any, the same.
  No condition but the premises that each theorem names.
-/
import Derived.Test.YtbpmkidaoemebaaTy
import Derived.Test.YtbpmkidaoemebaaPl
namespace Go.Proofs.Ytbpmkidaoemebaa.K
open Go Go.RowKit
set_option linter.unusedVariables false
set_option linter.unusedSimpArgs false

open Pl
def ERule : ER Rule := fun G cs r => ∃ p q, cs = [.int .i64 r.head, p, q] ∧ RSl 1 EInt G p r.pos ∧ RSl 1 EInt G q r.neg ∧ -9223372036854775808 ≤ r.head ∧ r.head ≤ 9223372036854775807
theorem ERule.mono : EMono ERule := fun _ _ _ _ hl ⟨p, q, h1, h2, h3, h4⟩ => ⟨p, q, h1, h2.mono EInt.mono hl, h3.mono EInt.mono hl, h4⟩

set_option maxRecDepth 100000 in

theorem R07_Ints_c (G : GH) (w0 : World) (hG : Holds G w0) (v u : Value) (a b : List Int) (h1 : RSl 1 EInt G v a) (h2 : RSl 1 EInt G u b) :
    Calls Try.prog 16 #[v, u] w0 (Sc w0 (.bool (decide (a = b)))) := by
  obtain ⟨oa, c, rfl, hlc, hcm⟩ := h1.elim
  obtain ⟨ob, d, rfl, hld, hdm⟩ := h2.elim
  have hle := h1.le
  refine enter Try.func16 rfl (N := 26) rfl (Nat.le_of_ble_eq_true rfl) ?_
  have hS := SS.init hG
  refine cw_seq ?_
  refine cw_region ?_
  -- r0.0 t4 := assign  Cfalse
  refine ol_pure rfl (op_assign rfl) ?_
  refine ol_nil ?_
  refine pq_then ?_
  refine cw_seq ?_
  refine cw_seq ?_
  refine cw_region ?_
  -- r1.0 t6 := move  t0
  refine ol_pure rfl (op_move rfl) ?_
  -- r1.1 t7 := call len t6
  refine ol_pure rfl (op_len sl_29 rfl rfl) ?_
  -- r1.2 t8 := move  t1
  refine ol_pure rfl (op_move rfl) ?_
  -- r1.3 t9 := call len t8
  refine ol_pure rfl (op_len sl_29 rfl rfl) ?_
  -- r1.4 t10 := neq t7 t9
  refine ol_pure rfl (op_neq rfl rfl) ?_
  refine ol_nil ?_
  refine pq_then ?_
  refine cw_cond rfl (fun h10 => ?_) (fun h10 => ?_)
  · skip
    try simp only [decide_eq_true_eq, decide_eq_false_iff_not, Bool.not_eq_true', Bool.not_eq_false', Bool.not_eq_eq_eq_not, Bool.not_true, Bool.not_false] at h10
    have hne : a.length ≠ b.length := by omega
    refine cw_seq ?_
    refine cw_region ?_
    -- r2.0 t4 := assign  Cfalse
    refine ol_pure rfl (op_assign rfl) ?_
    refine ol_nil ?_
    refine pq_then ?_
    refine cw_ret ?_
    refine pq_ret ?_
    refine ret1 rfl rfl ?_
    -- ret1 h10t
    exact hS.sc_b (by symm; rw [decide_eq_false_iff_not]; exact fun hh => hne (by rw [hh]))
  · skip
    try simp only [decide_eq_true_eq, decide_eq_false_iff_not, Bool.not_eq_true', Bool.not_eq_false', Bool.not_eq_eq_eq_not, Bool.not_true, Bool.not_false] at h10
    have hll : a.length = b.length := by omega
    refine cw_skip ?_
    refine pq_then ?_
    refine cw_seq ?_
    refine cw_seq ?_
    refine cw_region ?_
    -- r3.0 t5 := assign  C0
    refine ol_pure rfl (op_assign rfl) ?_
    refine ol_nil ?_
    refine pq_then ?_
    refine cw_block ?_
    refine cw_loop (fun e w n => ∃ k : Nat, e = [(0, .slice oa a.length c), (1, .slice ob b.length d), (5, .int .i64 (k : Nat))] ∧ k ≤ a.length ∧ n = a.length - k ∧ a.take k = b.take k ∧ SS G w0 G [] w) _ _ (by exact ⟨0, rfl, Nat.zero_le _, rfl, rfl, hS⟩) ((Sub.cons rfl (Sub.cons rfl (Sub.cons rfl Sub.nil)))) ?_
    clear hS
    rintro e w n ⟨k, rfl, hk, rfl, hp, hS⟩
    refine cw_seq ?_
    refine cw_seq ?_
    refine cw_region ?_
    -- r4.0 t11 := move  t5
    refine ol_pure rfl (op_move rfl) ?_
    -- r4.1 t12 := move  t0
    refine ol_pure rfl (op_move rfl) ?_
    -- r4.2 t13 := call len t12
    refine ol_pure rfl (op_len sl_29 rfl rfl) ?_
    -- r4.3 t14 := lss t11 t13
    refine ol_pure rfl (op_lss rfl rfl) ?_
    refine ol_nil ?_
    refine pq_then ?_
    refine cw_cond rfl (fun h14 => ?_) (fun h14 => ?_)
    · skip
      try simp only [decide_eq_true_eq, decide_eq_false_iff_not, Bool.not_eq_true', Bool.not_eq_false', Bool.not_eq_eq_eq_not, Bool.not_true, Bool.not_false] at h14
      have ha : k < a.length := by omega
      have hb : k < b.length := by omega
      obtain ⟨hoa, hc1, hb1⟩ := h1.int ha
      obtain ⟨hob, hc2, hb2⟩ := h2.int hb
      refine cw_skip ?_
      refine pq_then ?_
      refine cw_seq ?_
      refine cw_block ?_
      refine cw_seq ?_
      refine al_start' hS (hS.take 0) (by kernel_rfl) rfl (fun w hS hT => ?_)
      -- r6.0 t17 := move  t0
      refine al_take (i := 0) rfl (by kernel_rfl) (by kernel_rfl) (by kernel_rfl) rfl (fun _ _ _ h => h) (op_move rfl) rfl ?_
      -- r6.1 t18 := move  t5
      refine al_take (i := 1) rfl (by kernel_rfl) (by kernel_rfl) (by kernel_rfl) rfl (fun _ _ _ h => h) (op_move rfl) rfl ?_
      -- r6.2 t19 := indexAddr [29] t17 t18
      refine al_take (i := 2) rfl (by kernel_rfl) (by kernel_rfl) (by kernel_rfl) rfl (fun _ _ _ h => h) (op_indexN sl_29 rfl rfl (by omega) (by assumption)) rfl ?_
      -- r6.3 t20 := load [3] t19
      refine al_load (i := 3) rfl (by kernel_rfl) (by kernel_rfl) (by kernel_rfl) rfl (fun _ _ _ h => h) (by exact op_load1 one_3 rfl (fun w hw => by first | exact hw.gcell (by assumption) | exact hw.gcell0 (by assumption))) rfl hT ?_
      -- r6.4 t21 := move  t1
      refine al_take (i := 4) rfl (by kernel_rfl) (by kernel_rfl) (by kernel_rfl) rfl (fun _ _ _ h => h) (op_move rfl) rfl ?_
      -- r6.5 t22 := move  t5
      refine al_take (i := 5) rfl (by kernel_rfl) (by kernel_rfl) (by kernel_rfl) rfl (fun _ _ _ h => h) (op_move rfl) rfl ?_
      -- r6.6 t23 := indexAddr [29] t21 t22
      refine al_take (i := 6) rfl (by kernel_rfl) (by kernel_rfl) (by kernel_rfl) rfl (fun _ _ _ h => h) (op_indexN sl_29 rfl rfl (by omega) (by assumption)) rfl ?_
      -- r6.7 t24 := load [3] t23
      refine al_load (i := 7) rfl (by kernel_rfl) (by kernel_rfl) (by kernel_rfl) rfl (fun _ _ _ h => h) (by exact op_load1 one_3 rfl (fun w hw => by first | exact hw.gcell (by assumption) | exact hw.gcell0 (by assumption))) rfl hT ?_
      -- r6.8 t25 := neq t20 t24
      refine al_take (i := 8) rfl (by kernel_rfl) (by kernel_rfl) (by kernel_rfl) rfl (fun _ _ _ h => h) (op_neq rfl rfl) rfl ?_
      refine al_done (by kernel_rfl) ?_
      refine pq_then ?_
      refine cw_cond rfl (fun h25 => ?_) (fun h25 => ?_)
      · skip
        try simp only [decide_eq_true_eq, decide_eq_false_iff_not, Bool.not_eq_true', Bool.not_eq_false', Bool.not_eq_eq_eq_not, Bool.not_true, Bool.not_false] at h25
        refine cw_seq ?_
        refine cw_region ?_
        -- r7.0 t4 := assign  Cfalse
        refine ol_pure rfl (op_assign rfl) ?_
        refine ol_nil ?_
        refine pq_then ?_
        refine cw_ret ?_
        refine pq_in_ret ?_
        refine pq_ret ?_
        refine pq_ret ?_
        refine pq_in_ret ?_
        refine pq_ret ?_
        refine ret1 rfl rfl ?_
        -- ret2 h10f h14t h25t
        exact hS.sc_b (by symm; rw [decide_eq_false_iff_not]; exact Pl.ne_of_at ha hb h25)
      · skip
        try simp only [decide_eq_true_eq, decide_eq_false_iff_not, Bool.not_eq_true', Bool.not_eq_false', Bool.not_eq_eq_eq_not, Bool.not_true, Bool.not_false] at h25
        refine cw_skip ?_
        refine pq_in_normal ?_
        refine pq_then ?_
        refine cw_region ?_
        -- r5.0 t15 := move  t5
        refine ol_pure rfl (op_move rfl) ?_
        -- r5.1 t16 := add t15 C1
        refine ol_pure rfl (op_add rfl rfl (by omega) (by omega)) ?_
        -- r5.2 t5 := assign  t16
        refine ol_pure rfl (op_assign rfl) ?_
        refine ol_nil ?_
        -- end of round 1 h10f h14t h25f
        refine pq_loop _ _ (by exact ⟨k + 1, rfl, by omega, rfl, Pl.take_eq_succ ha hb hp h25, hS⟩) ((Sub.cons rfl (Sub.cons rfl (Sub.cons rfl Sub.nil)))) (by omega)
    · skip
      try simp only [decide_eq_true_eq, decide_eq_false_iff_not, Bool.not_eq_true', Bool.not_eq_false', Bool.not_eq_eq_eq_not, Bool.not_true, Bool.not_false] at h14
      refine cw_exit ?_
      refine pq_exit ?_
      refine pq_exit ?_
      refine pq_in_exit ?_
      refine pq_then ?_
      refine cw_seq ?_
      refine cw_region ?_
      -- r8.0 t4 := assign  Ctrue
      refine ol_pure rfl (op_assign rfl) ?_
      refine ol_nil ?_
      refine pq_then ?_
      refine cw_ret ?_
      refine ret1 rfl rfl ?_
      -- ret3 h10f h14f
      exact hS.sc_b (by symm; rw [decide_eq_true_eq]; exact Pl.eq_of_take hll (by omega) hp)
set_option maxRecDepth 100000 in

theorem R01_In_c (G : GH) (w0 : World) (hG : Holds G w0) (v : Value) (l : List Int) (x : Int) (h1 : RSl 1 EInt G v l) :
    Calls Try.prog 55 #[v, .int .i64 x] w0 (Sc w0 (.bool (decide (x ∈ l)))) := by
  obtain ⟨oa, c, rfl, hlc, hcm⟩ := h1.elim
  have hle := h1.le
  refine enter Try.func55 rfl (N := 18) rfl (Nat.le_of_ble_eq_true rfl) ?_
  have hS := SS.init hG
  refine cw_seq ?_
  refine cw_region ?_
  -- r0.0 t4 := assign  Cfalse
  refine ol_pure rfl (op_assign rfl) ?_
  refine ol_nil ?_
  refine pq_then ?_
  refine cw_seq ?_
  refine cw_seq ?_
  refine cw_region ?_
  -- r1.0 t5 := assign  C0
  refine ol_pure rfl (op_assign rfl) ?_
  refine ol_nil ?_
  refine pq_then ?_
  refine cw_block ?_
  refine cw_loop (fun e w n => ∃ k : Nat, e = [(0, .slice oa l.length c), (1, .int .i64 x), (5, .int .i64 (k : Nat))] ∧ k ≤ l.length ∧ n = l.length - k ∧ x ∉ l.take k ∧ SS G w0 G [] w) _ _ (by exact ⟨0, rfl, Nat.zero_le _, rfl, by simp, hS⟩) ((Sub.cons rfl (Sub.cons rfl (Sub.cons rfl Sub.nil)))) ?_
  clear hS
  rintro e w n ⟨k, rfl, hk, rfl, hp, hS⟩
  refine cw_seq ?_
  refine cw_seq ?_
  refine cw_region ?_
  -- r2.0 t6 := move  t5
  refine ol_pure rfl (op_move rfl) ?_
  -- r2.1 t7 := move  t0
  refine ol_pure rfl (op_move rfl) ?_
  -- r2.2 t8 := call len t7
  refine ol_pure rfl (op_len sl_29 rfl rfl) ?_
  -- r2.3 t9 := lss t6 t8
  refine ol_pure rfl (op_lss rfl rfl) ?_
  refine ol_nil ?_
  refine pq_then ?_
  refine cw_cond rfl (fun h9 => ?_) (fun h9 => ?_)
  · skip
    try simp only [decide_eq_true_eq, decide_eq_false_iff_not, Bool.not_eq_true', Bool.not_eq_false', Bool.not_eq_eq_eq_not, Bool.not_true, Bool.not_false] at h9
    have hlt : k < l.length := by omega
    obtain ⟨hoa, hc, hb⟩ := h1.int hlt
    refine cw_skip ?_
    refine pq_then ?_
    refine cw_seq ?_
    refine cw_block ?_
    refine cw_seq ?_
    refine cw_region ?_
    -- r4.0 t12 := move  t0
    refine ol_pure rfl (op_move rfl) ?_
    -- r4.1 t13 := move  t5
    refine ol_pure rfl (op_move rfl) ?_
    -- r4.2 t14 := indexAddr [29] t12 t13
    refine ol_pure rfl (op_indexN sl_29 rfl rfl (by omega) (by assumption)) ?_
    -- r4.3 t15 := load [3] t14
    refine ol_load rfl (op_load1 one_3 rfl (fun w hw => by first | exact hw.gcell (by assumption) | exact hw.gcell0 (by assumption))) hS ?_
    -- r4.4 t16 := move  t1
    refine ol_pure rfl (op_move rfl) ?_
    -- r4.5 t17 := eql t15 t16
    refine ol_pure rfl (op_eql rfl rfl) ?_
    refine ol_nil ?_
    refine pq_then ?_
    refine cw_cond rfl (fun h17 => ?_) (fun h17 => ?_)
    · skip
      try simp only [decide_eq_true_eq, decide_eq_false_iff_not, Bool.not_eq_true', Bool.not_eq_false', Bool.not_eq_eq_eq_not, Bool.not_true, Bool.not_false] at h17
      refine cw_seq ?_
      refine cw_region ?_
      -- r5.0 t4 := assign  Ctrue
      refine ol_pure rfl (op_assign rfl) ?_
      refine ol_nil ?_
      refine pq_then ?_
      refine cw_ret ?_
      refine pq_in_ret ?_
      refine pq_ret ?_
      refine pq_ret ?_
      refine pq_in_ret ?_
      refine pq_ret ?_
      refine ret1 rfl rfl ?_
      -- ret1 h9t h17t
      exact hS.sc_b (by symm; rw [decide_eq_true_eq, ← h17]; exact List.getElem_mem hlt)
    · skip
      try simp only [decide_eq_true_eq, decide_eq_false_iff_not, Bool.not_eq_true', Bool.not_eq_false', Bool.not_eq_eq_eq_not, Bool.not_true, Bool.not_false] at h17
      refine cw_skip ?_
      refine pq_in_normal ?_
      refine pq_then ?_
      refine cw_region ?_
      -- r3.0 t10 := move  t5
      refine ol_pure rfl (op_move rfl) ?_
      -- r3.1 t11 := add t10 C1
      refine ol_pure rfl (op_add rfl rfl (by omega) (by omega)) ?_
      -- r3.2 t5 := assign  t11
      refine ol_pure rfl (op_assign rfl) ?_
      refine ol_nil ?_
      -- end of round 1 h9t h17f
      refine pq_loop _ _ (by exact ⟨k + 1, rfl, by omega, rfl, Pl.mem_take_succ hlt hp h17, hS⟩) ((Sub.cons rfl (Sub.cons rfl (Sub.cons rfl Sub.nil)))) (by omega)
  · skip
    try simp only [decide_eq_true_eq, decide_eq_false_iff_not, Bool.not_eq_true', Bool.not_eq_false', Bool.not_eq_eq_eq_not, Bool.not_true, Bool.not_false] at h9
    refine cw_exit ?_
    refine pq_exit ?_
    refine pq_exit ?_
    refine pq_in_exit ?_
    refine pq_then ?_
    refine cw_seq ?_
    refine cw_region ?_
    -- r6.0 t4 := assign  Cfalse
    refine ol_pure rfl (op_assign rfl) ?_
    refine ol_nil ?_
    refine pq_then ?_
    refine cw_ret ?_
    refine ret1 rfl rfl ?_
    -- ret2 h9f
    exact hS.sc_b (by symm; rw [decide_eq_false_iff_not]; exact Pl.not_mem_of_take (by omega) hp)
set_option maxRecDepth 100000 in

theorem R16_Row_c (G : GH) (w0 : World) (hG : Holds G w0) (v u : Value) (a b : List Int) (h1 : RSl 1 EInt G v a) (h2 : RSl 1 EInt G u b) (ha0 : ∀ x ∈ a, 0 ≤ x) (hb0 : ∀ x ∈ b, 0 ≤ x) :
    Calls Try.prog 62 #[v, u] w0 (Sc w0 (.int .i64 (rowI a b))) := by
  obtain ⟨oa, c, rfl, hlc, hcm⟩ := h1.elim
  obtain ⟨ob, d, rfl, hld, hdm⟩ := h2.elim
  have hle := h1.le
  have hle2 := h2.le
  refine enter Try.func62 rfl (N := 41) rfl (Nat.le_of_ble_eq_true rfl) ?_
  have hS := SS.init hG
  refine cw_seq ?_
  refine cw_region ?_
  -- r0.0 t4 := assign  C0
  refine ol_pure rfl (op_assign rfl) ?_
  refine ol_nil ?_
  refine pq_then ?_
  refine cw_seq ?_
  refine cw_seq ?_
  refine cw_region ?_
  -- r1.0 t5 := assign  C0
  refine ol_pure rfl (op_assign rfl) ?_
  refine ol_nil ?_
  refine pq_then ?_
  refine cw_block ?_
  refine cw_loop (fun e w n => ∃ k : Nat, e = [(0, .slice oa a.length c), (1, .slice ob b.length d), (5, .int .i64 (k : Nat))] ∧ k ≤ a.length ∧ k ≤ b.length ∧ n = a.length - k ∧ rowI a b = rowI (a.drop k) (b.drop k) ∧ SS G w0 G [] w) _ _ (by exact ⟨0, rfl, Nat.zero_le _, Nat.zero_le _, rfl, rfl, hS⟩) ((Sub.cons rfl (Sub.cons rfl (Sub.cons rfl Sub.nil)))) ?_
  clear hS
  rintro e w n ⟨k, rfl, hk, hk2, rfl, hp, hS⟩
  refine cw_seq ?_
  refine cw_seq ?_
  refine cw_region ?_
  -- r2.0 t6 := move  t5
  refine ol_pure rfl (op_move rfl) ?_
  -- r2.1 t7 := move  t0
  refine ol_pure rfl (op_move rfl) ?_
  -- r2.2 t8 := call len t7
  refine ol_pure rfl (op_len sl_29 rfl rfl) ?_
  -- r2.3 t9 := lss t6 t8
  refine ol_pure rfl (op_lss rfl rfl) ?_
  -- r2.4 t10 := move  t9
  refine ol_pure rfl (op_move rfl) ?_
  refine ol_split (fun h10 => ?_) (fun h10 => ?_)
  · skip
    try simp only [decide_eq_true_eq, decide_eq_false_iff_not, Bool.not_eq_true', Bool.not_eq_false', Bool.not_eq_eq_eq_not, Bool.not_true, Bool.not_false] at h10
    -- r2.5 t11 := move  t5 ?4=True
    refine ol_guard_pure rfl rfl rfl (op_move rfl) ?_
    -- r2.6 t12 := move  t1 ?4=True
    refine ol_guard_pure rfl rfl rfl (op_move rfl) ?_
    -- r2.7 t13 := call len t12 ?4=True
    refine ol_guard_pure rfl rfl rfl (op_len sl_29 rfl rfl) ?_
    -- r2.8 t14 := lss t11 t13 ?4=True
    refine ol_guard_pure rfl rfl rfl (op_lss rfl rfl) ?_
    -- r2.9 t15 := pick  t10 t14 Cfalse
    refine ol_pure rfl (op_pick_t rfl rfl) ?_
    refine ol_nil ?_
    refine pq_then ?_
    refine cw_cond rfl (fun h15 => ?_) (fun h15 => ?_)
    · skip
      try simp only [decide_eq_true_eq, decide_eq_false_iff_not, Bool.not_eq_true', Bool.not_eq_false', Bool.not_eq_eq_eq_not, Bool.not_true, Bool.not_false] at h15
      have ha : k < a.length := by omega
      have hb : k < b.length := by omega
      obtain ⟨hoa, hc1, hb1⟩ := h1.int ha
      obtain ⟨hob, hc2, hb2⟩ := h2.int hb
      have hz1 := ha0 _ (List.getElem_mem ha)
      have hz2 := hb0 _ (List.getElem_mem hb)
      refine cw_skip ?_
      refine pq_then ?_
      refine cw_seq ?_
      refine cw_block ?_
      refine cw_seq ?_
      refine al_start' hS (hS.take 0) (by kernel_rfl) rfl (fun w hS hT => ?_)
      -- r4.0 t18 := move  t0
      refine al_take (i := 0) rfl (by kernel_rfl) (by kernel_rfl) (by kernel_rfl) rfl (fun _ _ _ h => h) (op_move rfl) rfl ?_
      -- r4.1 t19 := move  t5
      refine al_take (i := 1) rfl (by kernel_rfl) (by kernel_rfl) (by kernel_rfl) rfl (fun _ _ _ h => h) (op_move rfl) rfl ?_
      -- r4.2 t20 := indexAddr [29] t18 t19
      refine al_take (i := 2) rfl (by kernel_rfl) (by kernel_rfl) (by kernel_rfl) rfl (fun _ _ _ h => h) (op_indexN sl_29 rfl rfl (by omega) (by assumption)) rfl ?_
      -- r4.3 t21 := load [3] t20
      refine al_load (i := 3) rfl (by kernel_rfl) (by kernel_rfl) (by kernel_rfl) rfl (fun _ _ _ h => h) (by exact op_load1 one_3 rfl (fun w hw => by first | exact hw.gcell (by assumption) | exact hw.gcell0 (by assumption))) rfl hT ?_
      -- r4.4 t22 := move  t1
      refine al_take (i := 4) rfl (by kernel_rfl) (by kernel_rfl) (by kernel_rfl) rfl (fun _ _ _ h => h) (op_move rfl) rfl ?_
      -- r4.5 t23 := move  t5
      refine al_take (i := 5) rfl (by kernel_rfl) (by kernel_rfl) (by kernel_rfl) rfl (fun _ _ _ h => h) (op_move rfl) rfl ?_
      -- r4.6 t24 := indexAddr [29] t22 t23
      refine al_take (i := 6) rfl (by kernel_rfl) (by kernel_rfl) (by kernel_rfl) rfl (fun _ _ _ h => h) (op_indexN sl_29 rfl rfl (by omega) (by assumption)) rfl ?_
      -- r4.7 t25 := load [3] t24
      refine al_load (i := 7) rfl (by kernel_rfl) (by kernel_rfl) (by kernel_rfl) rfl (fun _ _ _ h => h) (by exact op_load1 one_3 rfl (fun w hw => by first | exact hw.gcell (by assumption) | exact hw.gcell0 (by assumption))) rfl hT ?_
      -- r4.8 t26 := neq t21 t25
      refine al_take (i := 8) rfl (by kernel_rfl) (by kernel_rfl) (by kernel_rfl) rfl (fun _ _ _ h => h) (op_neq rfl rfl) rfl ?_
      refine al_done (by kernel_rfl) ?_
      refine pq_then ?_
      refine cw_cond rfl (fun h26 => ?_) (fun h26 => ?_)
      · skip
        try simp only [decide_eq_true_eq, decide_eq_false_iff_not, Bool.not_eq_true', Bool.not_eq_false', Bool.not_eq_eq_eq_not, Bool.not_true, Bool.not_false] at h26
        refine cw_seq ?_
        refine al_start' hS (hS.take 0) (by kernel_rfl) rfl (fun w hS hT => ?_)
        -- r5.0 t27 := move  t0
        refine al_take (i := 0) rfl (by kernel_rfl) (by kernel_rfl) (by kernel_rfl) rfl (fun _ _ _ h => h) (op_move rfl) rfl ?_
        -- r5.1 t28 := move  t5
        refine al_take (i := 1) rfl (by kernel_rfl) (by kernel_rfl) (by kernel_rfl) rfl (fun _ _ _ h => h) (op_move rfl) rfl ?_
        -- r5.2 t29 := indexAddr [29] t27 t28
        refine al_take (i := 2) rfl (by kernel_rfl) (by kernel_rfl) (by kernel_rfl) rfl (fun _ _ _ h => h) (op_indexN sl_29 rfl rfl (by omega) (by assumption)) rfl ?_
        -- r5.3 t30 := load [3] t29
        refine al_load (i := 3) rfl (by kernel_rfl) (by kernel_rfl) (by kernel_rfl) rfl (fun _ _ _ h => h) (by exact op_load1 one_3 rfl (fun w hw => by first | exact hw.gcell (by assumption) | exact hw.gcell0 (by assumption))) rfl hT ?_
        -- r5.4 t31 := move  t1
        refine al_take (i := 4) rfl (by kernel_rfl) (by kernel_rfl) (by kernel_rfl) rfl (fun _ _ _ h => h) (op_move rfl) rfl ?_
        -- r5.5 t32 := move  t5
        refine al_take (i := 5) rfl (by kernel_rfl) (by kernel_rfl) (by kernel_rfl) rfl (fun _ _ _ h => h) (op_move rfl) rfl ?_
        -- r5.6 t33 := indexAddr [29] t31 t32
        refine al_take (i := 6) rfl (by kernel_rfl) (by kernel_rfl) (by kernel_rfl) rfl (fun _ _ _ h => h) (op_indexN sl_29 rfl rfl (by omega) (by assumption)) rfl ?_
        -- r5.7 t34 := load [3] t33
        refine al_load (i := 7) rfl (by kernel_rfl) (by kernel_rfl) (by kernel_rfl) rfl (fun _ _ _ h => h) (by exact op_load1 one_3 rfl (fun w hw => by first | exact hw.gcell (by assumption) | exact hw.gcell0 (by assumption))) rfl hT ?_
        -- r5.8 t35 := sub t30 t34
        refine al_take (i := 8) rfl (by kernel_rfl) (by kernel_rfl) (by kernel_rfl) rfl (fun _ _ _ h => h) (op_sub rfl rfl (by omega) (by omega)) rfl ?_
        -- r5.9 t4 := assign  t35
        refine al_take (i := 9) rfl (by kernel_rfl) (by kernel_rfl) (by kernel_rfl) rfl (fun _ _ _ h => h) (op_assign rfl) rfl ?_
        refine al_done (by kernel_rfl) ?_
        refine pq_then ?_
        refine cw_ret ?_
        refine pq_in_ret ?_
        refine pq_ret ?_
        refine pq_ret ?_
        refine pq_in_ret ?_
        refine pq_ret ?_
        refine ret1 rfl rfl ?_
        -- ret1 h10t h15t h26t
        exact hS.sc_i (by rw [hp, Pl.rowI_at ha hb h26])
      · skip
        try simp only [decide_eq_true_eq, decide_eq_false_iff_not, Bool.not_eq_true', Bool.not_eq_false', Bool.not_eq_eq_eq_not, Bool.not_true, Bool.not_false] at h26
        refine cw_skip ?_
        refine pq_in_normal ?_
        refine pq_then ?_
        refine cw_region ?_
        -- r3.0 t16 := move  t5
        refine ol_pure rfl (op_move rfl) ?_
        -- r3.1 t17 := add t16 C1
        refine ol_pure rfl (op_add rfl rfl (by omega) (by omega)) ?_
        -- r3.2 t5 := assign  t17
        refine ol_pure rfl (op_assign rfl) ?_
        refine ol_nil ?_
        -- end of round 1 h10t h15t h26f
        refine pq_loop _ _ (by exact ⟨k + 1, rfl, by omega, by omega, rfl, by rw [hp, Pl.rowI_drop ha hb h26], hS⟩) ((Sub.cons rfl (Sub.cons rfl (Sub.cons rfl Sub.nil)))) (by omega)
    · skip
      try simp only [decide_eq_true_eq, decide_eq_false_iff_not, Bool.not_eq_true', Bool.not_eq_false', Bool.not_eq_eq_eq_not, Bool.not_true, Bool.not_false] at h15
      refine cw_exit ?_
      refine pq_exit ?_
      refine pq_exit ?_
      refine pq_in_exit ?_
      refine pq_then ?_
      refine cw_seq ?_
      refine cw_region ?_
      -- r6.0 t36 := move  t0
      refine ol_pure rfl (op_move rfl) ?_
      -- r6.1 t37 := call len t36
      refine ol_pure rfl (op_len sl_29 rfl rfl) ?_
      -- r6.2 t38 := move  t1
      refine ol_pure rfl (op_move rfl) ?_
      -- r6.3 t39 := call len t38
      refine ol_pure rfl (op_len sl_29 rfl rfl) ?_
      -- r6.4 t40 := sub t37 t39
      refine ol_pure rfl (op_sub rfl rfl (by omega) (by omega)) ?_
      -- r6.5 t4 := assign  t40
      refine ol_pure rfl (op_assign rfl) ?_
      refine ol_nil ?_
      refine pq_then ?_
      refine cw_ret ?_
      refine ret1 rfl rfl ?_
      -- ret2 h10t h15f
      exact hS.sc_i (by rw [hp, Pl.rowI_end (by omega) hk hk2])
  · skip
    try simp only [decide_eq_true_eq, decide_eq_false_iff_not, Bool.not_eq_true', Bool.not_eq_false', Bool.not_eq_eq_eq_not, Bool.not_true, Bool.not_false] at h10
    refine ol_guard_no rfl rfl rfl rfl ?_
    refine ol_guard_no rfl rfl rfl rfl ?_
    refine ol_guard_no rfl rfl rfl rfl ?_
    refine ol_guard_no rfl rfl rfl rfl ?_
    -- r2.9 t15 := pick  t10 t14 Cfalse
    refine ol_pure rfl (op_pick_f rfl rfl) ?_
    refine ol_nil ?_
    refine pq_then ?_
    refine cw_cond_f rfl ?_
    refine cw_exit ?_
    refine pq_exit ?_
    refine pq_exit ?_
    refine pq_in_exit ?_
    refine pq_then ?_
    refine cw_seq ?_
    refine cw_region ?_
    -- r6.0 t36 := move  t0
    refine ol_pure rfl (op_move rfl) ?_
    -- r6.1 t37 := call len t36
    refine ol_pure rfl (op_len sl_29 rfl rfl) ?_
    -- r6.2 t38 := move  t1
    refine ol_pure rfl (op_move rfl) ?_
    -- r6.3 t39 := call len t38
    refine ol_pure rfl (op_len sl_29 rfl rfl) ?_
    -- r6.4 t40 := sub t37 t39
    refine ol_pure rfl (op_sub rfl rfl (by omega) (by omega)) ?_
    -- r6.5 t4 := assign  t40
    refine ol_pure rfl (op_assign rfl) ?_
    refine ol_nil ?_
    refine pq_then ?_
    refine cw_ret ?_
    refine ret1 rfl rfl ?_
    -- ret2 h10f
    exact hS.sc_i (by rw [hp, Pl.rowI_end (by omega) hk hk2])
set_option maxRecDepth 100000 in

theorem R16_Order_c (G : GH) (w0 : World) (hG : Holds G w0) (a b : Rule) (p q p' q' : Value) (h1 : RSl 1 EInt G p a.pos) (h2 : RSl 1 EInt G q a.neg) (h3 : RSl 1 EInt G p' b.pos) (h4 : RSl 1 EInt G q' b.neg) (ha0 : 0 ≤ a.head ∧ a.head ≤ 9223372036854775807) (hb0 : 0 ≤ b.head ∧ b.head ≤ 9223372036854775807) (hap : ∀ x ∈ a.pos, 0 ≤ x) (han : ∀ x ∈ a.neg, 0 ≤ x) (hbp : ∀ x ∈ b.pos, 0 ≤ x) (hbn : ∀ x ∈ b.neg, 0 ≤ x) :
    Calls Try.prog 44 #[.agg #[.int .i64 a.head, p, q], .agg #[.int .i64 b.head, p', q']] w0 (Sc w0 (.int .i64 (orderI a b))) := by
  refine enter Try.func44 rfl (N := 29) rfl (Nat.le_of_ble_eq_true rfl) ?_
  have hS := SS.init hG
  refine cw_seq ?_
  refine cw_region ?_
  -- r0.0 t2 := box [48] t0
  refine ol_step rfl (op_box hS rfl rfl) ?_
  clear hS
  rintro _ w ⟨b2, rfl, hS⟩
  -- r0.1 t3 := box [48] t1
  refine ol_step rfl (op_box hS rfl rfl) ?_
  clear hS
  rintro _ w ⟨b3, rfl, hS⟩
  -- r0.2 t4 := assign  C0
  refine ol_pure rfl (op_assign rfl) ?_
  refine ol_nil ?_
  refine pq_then ?_
  refine cw_seq ?_
  refine cw_seq ?_
  refine cw_region ?_
  -- r1.0 t6 := fieldAddr [48, 0] t2
  refine ol_pure rfl (op_fieldAddr fld_48_0 rfl) ?_
  -- r1.1 t7 := load [3] t6
  refine ol_load rfl (op_load1 one_3 rfl (fun w hw => (hw.bcell (i := 1) rfl).trans rfl)) hS ?_
  -- r1.2 t8 := fieldAddr [48, 0] t3
  refine ol_pure rfl (op_fieldAddr fld_48_0 rfl) ?_
  -- r1.3 t9 := load [3] t8
  refine ol_load rfl (op_load1 one_3 rfl (fun w hw => (hw.bcell (i := 0) rfl).trans rfl)) hS ?_
  -- r1.4 t10 := neq t7 t9
  refine ol_pure rfl (op_neq rfl rfl) ?_
  refine ol_nil ?_
  refine pq_then ?_
  refine cw_cond rfl (fun h10 => ?_) (fun h10 => ?_)
  · skip
    try simp only [decide_eq_true_eq, decide_eq_false_iff_not, Bool.not_eq_true', Bool.not_eq_false', Bool.not_eq_eq_eq_not, Bool.not_true, Bool.not_false] at h10
    refine cw_seq ?_
    refine cw_region ?_
    -- r2.0 t11 := fieldAddr [48, 0] t2
    refine ol_pure rfl (op_fieldAddr fld_48_0 rfl) ?_
    -- r2.1 t12 := load [3] t11
    refine ol_load rfl (op_load1 one_3 rfl (fun w hw => (hw.bcell (i := 1) rfl).trans rfl)) hS ?_
    -- r2.2 t13 := fieldAddr [48, 0] t3
    refine ol_pure rfl (op_fieldAddr fld_48_0 rfl) ?_
    -- r2.3 t14 := load [3] t13
    refine ol_load rfl (op_load1 one_3 rfl (fun w hw => (hw.bcell (i := 0) rfl).trans rfl)) hS ?_
    -- r2.4 t15 := sub t12 t14
    refine ol_pure rfl (op_sub rfl rfl (by omega) (by omega)) ?_
    -- r2.5 t4 := assign  t15
    refine ol_pure rfl (op_assign rfl) ?_
    refine ol_nil ?_
    refine pq_then ?_
    refine cw_ret ?_
    refine pq_ret ?_
    refine ret1 rfl rfl ?_
    -- ret1 h10t
    exact hS.sc_i (by rw [orderI, if_pos h10])
  · skip
    try simp only [decide_eq_true_eq, decide_eq_false_iff_not, Bool.not_eq_true', Bool.not_eq_false', Bool.not_eq_eq_eq_not, Bool.not_true, Bool.not_false] at h10
    refine cw_skip ?_
    refine pq_then ?_
    refine cw_seq ?_
    refine cw_region ?_
    -- r3.0 t16 := fieldAddr [48, 1] t2
    refine ol_pure rfl (op_fieldAddr fld_48_1 rfl) ?_
    -- r3.1 t17 := load [29] t16
    refine ol_load rfl (op_load1 one_29 rfl (fun w hw => (hw.bcell (i := 1) rfl).trans rfl)) hS ?_
    -- r3.2 t18 := fieldAddr [48, 1] t3
    refine ol_pure rfl (op_fieldAddr fld_48_1 rfl) ?_
    -- r3.3 t19 := load [29] t18
    refine ol_load rfl (op_load1 one_29 rfl (fun w hw => (hw.bcell (i := 0) rfl).trans rfl)) hS ?_
    -- r3.4 t20 := call f62 t17 t19
    refine ol_step rfl (op_call_sc hS cf_62 rfl (R16_Row_c G _ hS.hold _ _ _ _ h1 h3 hap hbp)) ?_
    clear hS
    rintro _ w ⟨rfl, hS⟩
    -- r3.5 t5 := assign  t20
    refine ol_pure rfl (op_assign rfl) ?_
    refine ol_nil ?_
    refine pq_then ?_
    refine cw_seq ?_
    refine cw_seq ?_
    refine cw_region ?_
    -- r4.0 t21 := move  t5
    refine ol_pure rfl (op_move rfl) ?_
    -- r4.1 t22 := neq t21 C0
    refine ol_pure rfl (op_neq rfl rfl) ?_
    refine ol_nil ?_
    refine pq_then ?_
    refine cw_cond rfl (fun h22 => ?_) (fun h22 => ?_)
    · skip
      try simp only [decide_eq_true_eq, decide_eq_false_iff_not, Bool.not_eq_true', Bool.not_eq_false', Bool.not_eq_eq_eq_not, Bool.not_true, Bool.not_false] at h22
      refine cw_seq ?_
      refine cw_region ?_
      -- r5.0 t23 := move  t5
      refine ol_pure rfl (op_move rfl) ?_
      -- r5.1 t4 := assign  t23
      refine ol_pure rfl (op_assign rfl) ?_
      refine ol_nil ?_
      refine pq_then ?_
      refine cw_ret ?_
      refine pq_ret ?_
      refine ret1 rfl rfl ?_
      -- ret2 h10f h22t
      exact hS.sc_i (by rw [orderI, if_neg (by simpa using h10), if_pos h22])
    · skip
      try simp only [decide_eq_true_eq, decide_eq_false_iff_not, Bool.not_eq_true', Bool.not_eq_false', Bool.not_eq_eq_eq_not, Bool.not_true, Bool.not_false] at h22
      refine cw_skip ?_
      refine pq_then ?_
      refine cw_seq ?_
      refine cw_region ?_
      -- r6.0 t24 := fieldAddr [48, 2] t2
      refine ol_pure rfl (op_fieldAddr fld_48_2 rfl) ?_
      -- r6.1 t25 := load [29] t24
      refine ol_load rfl (op_load1 one_29 rfl (fun w hw => (hw.bcell (i := 1) rfl).trans rfl)) hS ?_
      -- r6.2 t26 := fieldAddr [48, 2] t3
      refine ol_pure rfl (op_fieldAddr fld_48_2 rfl) ?_
      -- r6.3 t27 := load [29] t26
      refine ol_load rfl (op_load1 one_29 rfl (fun w hw => (hw.bcell (i := 0) rfl).trans rfl)) hS ?_
      -- r6.4 t28 := call f62 t25 t27
      refine ol_step rfl (op_call_sc hS cf_62 rfl (R16_Row_c G _ hS.hold _ _ _ _ h2 h4 han hbn)) ?_
      clear hS
      rintro _ w ⟨rfl, hS⟩
      -- r6.5 t4 := assign  t28
      refine ol_pure rfl (op_assign rfl) ?_
      refine ol_nil ?_
      refine pq_then ?_
      refine cw_ret ?_
      refine ret1 rfl rfl ?_
      -- ret3 h10f h22f
      exact hS.sc_i (by rw [orderI, if_neg (by simpa using h10), if_neg (by simpa using h22)])
set_option maxRecDepth 100000 in

theorem R16_set_c (G : GH) (w0 : World) (hG : Holds G w0) (v : Value) (l : List Int) (m : Int) (h1 : RSl 1 EInt G v l) :
    Calls Try.prog 43 #[v, .int .i64 m] w0 (Sc w0 (.bool (setI l m))) := by
  obtain ⟨oa, c, rfl, hlc, hcm⟩ := h1.elim
  have hle := h1.le
  refine enter Try.func43 rfl (N := 41) rfl (Nat.le_of_ble_eq_true rfl) ?_
  have hS := SS.init hG
  refine cw_seq ?_
  refine cw_region ?_
  -- r0.0 t4 := assign  Cfalse
  refine ol_pure rfl (op_assign rfl) ?_
  refine ol_nil ?_
  refine pq_then ?_
  refine cw_seq ?_
  refine cw_seq ?_
  refine cw_region ?_
  -- r1.0 t5 := assign  C0
  refine ol_pure rfl (op_assign rfl) ?_
  refine ol_nil ?_
  refine pq_then ?_
  refine cw_block ?_
  refine cw_loop (fun e w n => ∃ k : Nat, e = [(0, .slice oa l.length c), (1, .int .i64 m), (5, .int .i64 (k : Nat))] ∧ k ≤ l.length ∧ n = l.length - k ∧ (l.take k).all (fun x => decide (0 ≤ x) && decide (x < m)) = true ∧ (l.take k).Pairwise (· < ·) ∧ SS G w0 G [] w) _ _ (by exact ⟨0, rfl, Nat.zero_le _, rfl, rfl, by simp, hS⟩) ((Sub.cons rfl (Sub.cons rfl (Sub.cons rfl Sub.nil)))) ?_
  clear hS
  rintro e w n ⟨k, rfl, hk, rfl, hp, hq, hS⟩
  refine cw_seq ?_
  refine cw_seq ?_
  refine cw_region ?_
  -- r2.0 t6 := move  t5
  refine ol_pure rfl (op_move rfl) ?_
  -- r2.1 t7 := move  t0
  refine ol_pure rfl (op_move rfl) ?_
  -- r2.2 t8 := call len t7
  refine ol_pure rfl (op_len sl_29 rfl rfl) ?_
  -- r2.3 t9 := lss t6 t8
  refine ol_pure rfl (op_lss rfl rfl) ?_
  refine ol_nil ?_
  refine pq_then ?_
  refine cw_cond rfl (fun h9 => ?_) (fun h9 => ?_)
  · skip
    try simp only [decide_eq_true_eq, decide_eq_false_iff_not, Bool.not_eq_true', Bool.not_eq_false', Bool.not_eq_eq_eq_not, Bool.not_true, Bool.not_false] at h9
    have hlt : k < l.length := by omega
    obtain ⟨hoa, hc, hb⟩ := h1.int hlt
    refine cw_skip ?_
    refine pq_then ?_
    refine cw_seq ?_
    refine cw_block ?_
    refine cw_seq ?_
    refine al_start' hS (hS.take 0) (by kernel_rfl) rfl (fun w hS hT => ?_)
    -- r4.0 t12 := move  t0
    refine al_take (i := 0) rfl (by kernel_rfl) (by kernel_rfl) (by kernel_rfl) rfl (fun _ _ _ h => h) (op_move rfl) rfl ?_
    -- r4.1 t13 := move  t5
    refine al_take (i := 1) rfl (by kernel_rfl) (by kernel_rfl) (by kernel_rfl) rfl (fun _ _ _ h => h) (op_move rfl) rfl ?_
    -- r4.2 t14 := indexAddr [29] t12 t13
    refine al_take (i := 2) rfl (by kernel_rfl) (by kernel_rfl) (by kernel_rfl) rfl (fun _ _ _ h => h) (op_indexN sl_29 rfl rfl (by omega) (by assumption)) rfl ?_
    -- r4.3 t15 := load [3] t14
    refine al_load (i := 3) rfl (by kernel_rfl) (by kernel_rfl) (by kernel_rfl) rfl (fun _ _ _ h => h) (by exact op_load1 one_3 rfl (fun w hw => by first | exact hw.gcell (by assumption) | exact hw.gcell0 (by assumption))) rfl hT ?_
    -- r4.4 t16 := lss t15 C0
    refine al_take (i := 4) rfl (by kernel_rfl) (by kernel_rfl) (by kernel_rfl) rfl (fun _ _ _ h => h) (op_lss rfl rfl) rfl ?_
    -- r4.5 t17 := move  t16
    refine al_take (i := 5) rfl (by kernel_rfl) (by kernel_rfl) (by kernel_rfl) rfl (fun _ _ _ h => h) (op_move rfl) rfl ?_
    refine al_split (fun h17 => ?_) (fun h17 => ?_)
    · skip
      try simp only [decide_eq_true_eq, decide_eq_false_iff_not, Bool.not_eq_true', Bool.not_eq_false', Bool.not_eq_eq_eq_not, Bool.not_true, Bool.not_false] at h17
      refine al_gskip (i := 6) rfl (by kernel_rfl) (by kernel_rfl) (by kernel_rfl) rfl rfl rfl rfl (fun _ _ _ h => h) (fun _ => hT) ?_
      refine al_gskip (i := 7) rfl (by kernel_rfl) (by kernel_rfl) (by kernel_rfl) rfl rfl rfl rfl (fun _ _ _ h => h) (fun _ => hT) ?_
      refine al_gskip (i := 8) rfl (by kernel_rfl) (by kernel_rfl) (by kernel_rfl) rfl rfl rfl rfl (fun _ _ _ h => h) (fun _ => hT) ?_
      refine al_gskip (i := 9) rfl (by kernel_rfl) (by kernel_rfl) (by kernel_rfl) rfl rfl rfl rfl (fun _ _ _ h => h) (fun _ => hT) ?_
      refine al_gskip (i := 10) rfl (by kernel_rfl) (by kernel_rfl) (by kernel_rfl) rfl rfl rfl rfl (fun _ _ _ h => h) (fun _ => hT) ?_
      refine al_gskip (i := 11) rfl (by kernel_rfl) (by kernel_rfl) (by kernel_rfl) rfl rfl rfl rfl (fun _ _ _ h => h) (fun _ => hT) ?_
      -- r4.12 t24 := pick  t17 Ctrue t23
      refine al_take (i := 12) rfl (by kernel_rfl) (by kernel_rfl) (by kernel_rfl) rfl (fun _ _ _ h => h) (op_pick_t rfl rfl) rfl ?_
      -- r4.13 t25 := move  t24
      refine al_take (i := 13) rfl (by kernel_rfl) (by kernel_rfl) (by kernel_rfl) rfl (fun _ _ _ h => h) (op_move rfl) rfl ?_
      refine al_gskip (i := 14) rfl (by kernel_rfl) (by kernel_rfl) (by kernel_rfl) rfl rfl rfl rfl (fun _ _ _ h => h) (fun _ => hT) ?_
      refine al_gskip (i := 15) rfl (by kernel_rfl) (by kernel_rfl) (by kernel_rfl) rfl rfl rfl rfl (fun _ _ _ h => h) (fun _ => hT) ?_
      refine al_gskip (i := 16) rfl (by kernel_rfl) (by kernel_rfl) (by kernel_rfl) rfl rfl rfl rfl (fun _ _ _ h => h) (fun _ => hT) ?_
      refine al_gundef (i := 17) rfl (by kernel_rfl) (by kernel_rfl) (by kernel_rfl) rfl rfl rfl (fun _ _ _ h => h) (fun _ => hT) ?_
      refine al_gundef (i := 18) rfl (by kernel_rfl) (by kernel_rfl) (by kernel_rfl) rfl rfl rfl (fun _ _ _ h => h) (fun _ => hT) ?_
      refine al_gundef (i := 19) rfl (by kernel_rfl) (by kernel_rfl) (by kernel_rfl) rfl rfl rfl (fun _ _ _ h => h) (fun _ => hT) ?_
      refine al_gundef (i := 20) rfl (by kernel_rfl) (by kernel_rfl) (by kernel_rfl) rfl rfl rfl (fun _ _ _ h => h) (fun _ => hT) ?_
      refine al_gundef (i := 21) rfl (by kernel_rfl) (by kernel_rfl) (by kernel_rfl) rfl rfl rfl (fun _ _ _ h => h) (fun _ => hT) ?_
      refine al_gundef (i := 22) rfl (by kernel_rfl) (by kernel_rfl) (by kernel_rfl) rfl rfl rfl (fun _ _ _ h => h) (fun _ => hT) ?_
      refine al_gundef (i := 23) rfl (by kernel_rfl) (by kernel_rfl) (by kernel_rfl) rfl rfl rfl (fun _ _ _ h => h) (fun _ => hT) ?_
      refine al_gundef (i := 24) rfl (by kernel_rfl) (by kernel_rfl) (by kernel_rfl) rfl rfl rfl (fun _ _ _ h => h) (fun _ => hT) ?_
      refine al_gundef (i := 25) rfl (by kernel_rfl) (by kernel_rfl) (by kernel_rfl) rfl rfl rfl (fun _ _ _ h => h) (fun _ => hT) ?_
      refine al_gundef (i := 26) rfl (by kernel_rfl) (by kernel_rfl) (by kernel_rfl) rfl rfl rfl (fun _ _ _ h => h) (fun _ => hT) ?_
      refine al_gskip (i := 27) rfl (by kernel_rfl) (by kernel_rfl) (by kernel_rfl) rfl rfl rfl rfl (fun _ _ _ h => h) (fun _ => hT) ?_
      -- r4.28 t40 := pick  t25 Ctrue t39
      refine al_take (i := 28) rfl (by kernel_rfl) (by kernel_rfl) (by kernel_rfl) rfl (fun _ _ _ h => h) (op_pick_t rfl rfl) rfl ?_
      refine al_done (by kernel_rfl) ?_
      refine pq_then ?_
      refine cw_cond_t rfl ?_
      refine cw_seq ?_
      refine cw_region ?_
      -- r5.0 t4 := assign  Cfalse
      refine ol_pure rfl (op_assign rfl) ?_
      refine ol_nil ?_
      refine pq_then ?_
      refine cw_ret ?_
      refine pq_in_ret ?_
      refine pq_ret ?_
      refine pq_ret ?_
      refine pq_in_ret ?_
      refine pq_ret ?_
      refine ret1 rfl rfl ?_
      -- ret1 h9t h17t
      exact hS.sc_b (by rw [setI, Pl.all_false_at _ _ _ hlt (by simp; omega)]; rfl)
    · skip
      try simp only [decide_eq_true_eq, decide_eq_false_iff_not, Bool.not_eq_true', Bool.not_eq_false', Bool.not_eq_eq_eq_not, Bool.not_true, Bool.not_false] at h17
      -- r4.6 t18 := move  t0 ?5=False
      refine al_gtake (i := 6) rfl (by kernel_rfl) (by kernel_rfl) (by kernel_rfl) rfl rfl rfl (fun _ _ _ h => h) (op_move rfl) rfl ?_
      -- r4.7 t19 := move  t5 ?5=False
      refine al_gtake (i := 7) rfl (by kernel_rfl) (by kernel_rfl) (by kernel_rfl) rfl rfl rfl (fun _ _ _ h => h) (op_move rfl) rfl ?_
      -- r4.8 t20 := indexAddr [29] t18 t19 ?5=False
      refine al_gtake (i := 8) rfl (by kernel_rfl) (by kernel_rfl) (by kernel_rfl) rfl rfl rfl (fun _ _ _ h => h) (op_indexN sl_29 rfl rfl (by omega) (by assumption)) rfl ?_
      -- r4.9 t21 := load [3] t20 ?5=False
      refine al_gload (i := 9) rfl (by kernel_rfl) (by kernel_rfl) (by kernel_rfl) rfl rfl rfl (fun _ _ _ h => h) (by exact op_load1 one_3 rfl (fun w hw => by first | exact hw.gcell (by assumption) | exact hw.gcell0 (by assumption))) rfl hT ?_
      -- r4.10 t22 := move  t1 ?5=False
      refine al_gtake (i := 10) rfl (by kernel_rfl) (by kernel_rfl) (by kernel_rfl) rfl rfl rfl (fun _ _ _ h => h) (op_move rfl) rfl ?_
      -- r4.11 t23 := geq t21 t22 ?5=False
      refine al_gtake (i := 11) rfl (by kernel_rfl) (by kernel_rfl) (by kernel_rfl) rfl rfl rfl (fun _ _ _ h => h) (op_geq rfl rfl) rfl ?_
      -- r4.12 t24 := pick  t17 Ctrue t23
      refine al_take (i := 12) rfl (by kernel_rfl) (by kernel_rfl) (by kernel_rfl) rfl (fun _ _ _ h => h) (op_pick_f rfl rfl) rfl ?_
      -- r4.13 t25 := move  t24
      refine al_take (i := 13) rfl (by kernel_rfl) (by kernel_rfl) (by kernel_rfl) rfl (fun _ _ _ h => h) (op_move rfl) rfl ?_
      refine al_split (fun h25 => ?_) (fun h25 => ?_)
      · skip
        try simp only [decide_eq_true_eq, decide_eq_false_iff_not, Bool.not_eq_true', Bool.not_eq_false', Bool.not_eq_eq_eq_not, Bool.not_true, Bool.not_false] at h25
        refine al_gskip (i := 14) rfl (by kernel_rfl) (by kernel_rfl) (by kernel_rfl) rfl rfl rfl rfl (fun _ _ _ h => h) (fun _ => hT) ?_
        refine al_gskip (i := 15) rfl (by kernel_rfl) (by kernel_rfl) (by kernel_rfl) rfl rfl rfl rfl (fun _ _ _ h => h) (fun _ => hT) ?_
        refine al_gskip (i := 16) rfl (by kernel_rfl) (by kernel_rfl) (by kernel_rfl) rfl rfl rfl rfl (fun _ _ _ h => h) (fun _ => hT) ?_
        refine al_gundef (i := 17) rfl (by kernel_rfl) (by kernel_rfl) (by kernel_rfl) rfl rfl rfl (fun _ _ _ h => h) (fun _ => hT) ?_
        refine al_gundef (i := 18) rfl (by kernel_rfl) (by kernel_rfl) (by kernel_rfl) rfl rfl rfl (fun _ _ _ h => h) (fun _ => hT) ?_
        refine al_gundef (i := 19) rfl (by kernel_rfl) (by kernel_rfl) (by kernel_rfl) rfl rfl rfl (fun _ _ _ h => h) (fun _ => hT) ?_
        refine al_gundef (i := 20) rfl (by kernel_rfl) (by kernel_rfl) (by kernel_rfl) rfl rfl rfl (fun _ _ _ h => h) (fun _ => hT) ?_
        refine al_gundef (i := 21) rfl (by kernel_rfl) (by kernel_rfl) (by kernel_rfl) rfl rfl rfl (fun _ _ _ h => h) (fun _ => hT) ?_
        refine al_gundef (i := 22) rfl (by kernel_rfl) (by kernel_rfl) (by kernel_rfl) rfl rfl rfl (fun _ _ _ h => h) (fun _ => hT) ?_
        refine al_gundef (i := 23) rfl (by kernel_rfl) (by kernel_rfl) (by kernel_rfl) rfl rfl rfl (fun _ _ _ h => h) (fun _ => hT) ?_
        refine al_gundef (i := 24) rfl (by kernel_rfl) (by kernel_rfl) (by kernel_rfl) rfl rfl rfl (fun _ _ _ h => h) (fun _ => hT) ?_
        refine al_gundef (i := 25) rfl (by kernel_rfl) (by kernel_rfl) (by kernel_rfl) rfl rfl rfl (fun _ _ _ h => h) (fun _ => hT) ?_
        refine al_gundef (i := 26) rfl (by kernel_rfl) (by kernel_rfl) (by kernel_rfl) rfl rfl rfl (fun _ _ _ h => h) (fun _ => hT) ?_
        refine al_gskip (i := 27) rfl (by kernel_rfl) (by kernel_rfl) (by kernel_rfl) rfl rfl rfl rfl (fun _ _ _ h => h) (fun _ => hT) ?_
        -- r4.28 t40 := pick  t25 Ctrue t39
        refine al_take (i := 28) rfl (by kernel_rfl) (by kernel_rfl) (by kernel_rfl) rfl (fun _ _ _ h => h) (op_pick_t rfl rfl) rfl ?_
        refine al_done (by kernel_rfl) ?_
        refine pq_then ?_
        refine cw_cond_t rfl ?_
        refine cw_seq ?_
        refine cw_region ?_
        -- r5.0 t4 := assign  Cfalse
        refine ol_pure rfl (op_assign rfl) ?_
        refine ol_nil ?_
        refine pq_then ?_
        refine cw_ret ?_
        refine pq_in_ret ?_
        refine pq_ret ?_
        refine pq_ret ?_
        refine pq_in_ret ?_
        refine pq_ret ?_
        refine ret1 rfl rfl ?_
        -- ret1 h9t h17f h25t
        exact hS.sc_b (by rw [setI, Pl.all_false_at _ _ _ hlt (by simp; omega)]; rfl)
      · skip
        try simp only [decide_eq_true_eq, decide_eq_false_iff_not, Bool.not_eq_true', Bool.not_eq_false', Bool.not_eq_eq_eq_not, Bool.not_true, Bool.not_false] at h25
        -- r4.14 t26 := move  t5 ?13=False
        refine al_gtake (i := 14) rfl (by kernel_rfl) (by kernel_rfl) (by kernel_rfl) rfl rfl rfl (fun _ _ _ h => h) (op_move rfl) rfl ?_
        -- r4.15 t27 := gtr t26 C0 ?13=False
        refine al_gtake (i := 15) rfl (by kernel_rfl) (by kernel_rfl) (by kernel_rfl) rfl rfl rfl (fun _ _ _ h => h) (op_gtr rfl rfl) rfl ?_
        -- r4.16 t28 := move  t27 ?13=False
        refine al_gtake (i := 16) rfl (by kernel_rfl) (by kernel_rfl) (by kernel_rfl) rfl rfl rfl (fun _ _ _ h => h) (op_move rfl) rfl ?_
        refine al_split (fun h28 => ?_) (fun h28 => ?_)
        · skip
          try simp only [decide_eq_true_eq, decide_eq_false_iff_not, Bool.not_eq_true', Bool.not_eq_false', Bool.not_eq_eq_eq_not, Bool.not_true, Bool.not_false] at h28
          have hk1 : k - 1 < l.length := by omega
          obtain ⟨_, hc2', _⟩ := h1.int hk1
          have hc2 : gcell G (elA oa (((k : Int) - 1).toNat * 1)) = some (.int .i64 l[k - 1]) := by rw [show ((k : Int) - 1).toNat = k - 1 from by omega]; exact hc2'
          -- r4.17 t29 := move  t0 ?16=True
          refine al_gtake (i := 17) rfl (by kernel_rfl) (by kernel_rfl) (by kernel_rfl) rfl rfl rfl (fun _ _ _ h => h) (op_move rfl) rfl ?_
          -- r4.18 t30 := move  t5 ?16=True
          refine al_gtake (i := 18) rfl (by kernel_rfl) (by kernel_rfl) (by kernel_rfl) rfl rfl rfl (fun _ _ _ h => h) (op_move rfl) rfl ?_
          -- r4.19 t31 := indexAddr [29] t29 t30 ?16=True
          refine al_gtake (i := 19) rfl (by kernel_rfl) (by kernel_rfl) (by kernel_rfl) rfl rfl rfl (fun _ _ _ h => h) (op_indexN sl_29 rfl rfl (by omega) (by assumption)) rfl ?_
          -- r4.20 t32 := load [3] t31 ?16=True
          refine al_gload (i := 20) rfl (by kernel_rfl) (by kernel_rfl) (by kernel_rfl) rfl rfl rfl (fun _ _ _ h => h) (by exact op_load1 one_3 rfl (fun w hw => by first | exact hw.gcell (by assumption) | exact hw.gcell0 (by assumption))) rfl hT ?_
          -- r4.21 t33 := move  t0 ?16=True
          refine al_gtake (i := 21) rfl (by kernel_rfl) (by kernel_rfl) (by kernel_rfl) rfl rfl rfl (fun _ _ _ h => h) (op_move rfl) rfl ?_
          -- r4.22 t34 := move  t5 ?16=True
          refine al_gtake (i := 22) rfl (by kernel_rfl) (by kernel_rfl) (by kernel_rfl) rfl rfl rfl (fun _ _ _ h => h) (op_move rfl) rfl ?_
          -- r4.23 t35 := sub t34 C1 ?16=True
          refine al_gtake (i := 23) rfl (by kernel_rfl) (by kernel_rfl) (by kernel_rfl) rfl rfl rfl (fun _ _ _ h => h) (op_sub rfl rfl (by omega) (by omega)) rfl ?_
          -- r4.24 t36 := indexAddr [29] t33 t35 ?16=True
          refine al_gtake (i := 24) rfl (by kernel_rfl) (by kernel_rfl) (by kernel_rfl) rfl rfl rfl (fun _ _ _ h => h) (op_indexAddr sl_29 rfl rfl (by omega) (by omega) (by assumption)) rfl ?_
          -- r4.25 t37 := load [3] t36 ?16=True
          refine al_gload (i := 25) rfl (by kernel_rfl) (by kernel_rfl) (by kernel_rfl) rfl rfl rfl (fun _ _ _ h => h) (by exact op_load1 one_3 rfl (fun w hw => by first | exact hw.gcell (by assumption) | exact hw.gcell0 (by assumption))) rfl hT ?_
          -- r4.26 t38 := leq t32 t37 ?16=True
          refine al_gtake (i := 26) rfl (by kernel_rfl) (by kernel_rfl) (by kernel_rfl) rfl rfl rfl (fun _ _ _ h => h) (op_leq rfl rfl) rfl ?_
          -- r4.27 t39 := pick  t28 t38 Cfalse ?13=False
          refine al_gtake (i := 27) rfl (by kernel_rfl) (by kernel_rfl) (by kernel_rfl) rfl rfl rfl (fun _ _ _ h => h) (op_pick_t rfl rfl) rfl ?_
          -- r4.28 t40 := pick  t25 Ctrue t39
          refine al_take (i := 28) rfl (by kernel_rfl) (by kernel_rfl) (by kernel_rfl) rfl (fun _ _ _ h => h) (op_pick_f rfl rfl) rfl ?_
          refine al_done (by kernel_rfl) ?_
          refine pq_then ?_
          refine cw_cond rfl (fun h40 => ?_) (fun h40 => ?_)
          · skip
            try simp only [decide_eq_true_eq, decide_eq_false_iff_not, Bool.not_eq_true', Bool.not_eq_false', Bool.not_eq_eq_eq_not, Bool.not_true, Bool.not_false] at h40
            refine cw_seq ?_
            refine cw_region ?_
            -- r5.0 t4 := assign  Cfalse
            refine ol_pure rfl (op_assign rfl) ?_
            refine ol_nil ?_
            refine pq_then ?_
            refine cw_ret ?_
            refine pq_in_ret ?_
            refine pq_ret ?_
            refine pq_ret ?_
            refine pq_in_ret ?_
            refine pq_ret ?_
            refine ret1 rfl rfl ?_
            -- ret1 h9t h17f h25f h28t h40t
            exact hS.sc_b (by rw [setI, decide_eq_false (Pl.not_pairwise_at hlt (by omega) (by omega)), Bool.and_false])
          · skip
            try simp only [decide_eq_true_eq, decide_eq_false_iff_not, Bool.not_eq_true', Bool.not_eq_false', Bool.not_eq_eq_eq_not, Bool.not_true, Bool.not_false] at h40
            refine cw_skip ?_
            refine pq_in_normal ?_
            refine pq_then ?_
            refine cw_region ?_
            -- r3.0 t10 := move  t5
            refine ol_pure rfl (op_move rfl) ?_
            -- r3.1 t11 := add t10 C1
            refine ol_pure rfl (op_add rfl rfl (by omega) (by omega)) ?_
            -- r3.2 t5 := assign  t11
            refine ol_pure rfl (op_assign rfl) ?_
            refine ol_nil ?_
            -- end of round 1 h9t h17f h25f h28t h40f
            refine pq_loop _ _ (by exact ⟨k + 1, rfl, by omega, rfl, by rw [Pl.all_take_succ _ _ _ hlt, hp]; simp; omega, Pl.pairwise_take_succ hlt hq (.inr ⟨by omega, by omega⟩), hS⟩) ((Sub.cons rfl (Sub.cons rfl (Sub.cons rfl Sub.nil)))) (by omega)
        · skip
          try simp only [decide_eq_true_eq, decide_eq_false_iff_not, Bool.not_eq_true', Bool.not_eq_false', Bool.not_eq_eq_eq_not, Bool.not_true, Bool.not_false] at h28
          refine al_gskip (i := 17) rfl (by kernel_rfl) (by kernel_rfl) (by kernel_rfl) rfl rfl rfl rfl (fun _ _ _ h => h) (fun _ => hT) ?_
          refine al_gskip (i := 18) rfl (by kernel_rfl) (by kernel_rfl) (by kernel_rfl) rfl rfl rfl rfl (fun _ _ _ h => h) (fun _ => hT) ?_
          refine al_gskip (i := 19) rfl (by kernel_rfl) (by kernel_rfl) (by kernel_rfl) rfl rfl rfl rfl (fun _ _ _ h => h) (fun _ => hT) ?_
          refine al_gskip (i := 20) rfl (by kernel_rfl) (by kernel_rfl) (by kernel_rfl) rfl rfl rfl rfl (fun _ _ _ h => h) (fun _ => hT) ?_
          refine al_gskip (i := 21) rfl (by kernel_rfl) (by kernel_rfl) (by kernel_rfl) rfl rfl rfl rfl (fun _ _ _ h => h) (fun _ => hT) ?_
          refine al_gskip (i := 22) rfl (by kernel_rfl) (by kernel_rfl) (by kernel_rfl) rfl rfl rfl rfl (fun _ _ _ h => h) (fun _ => hT) ?_
          refine al_gskip (i := 23) rfl (by kernel_rfl) (by kernel_rfl) (by kernel_rfl) rfl rfl rfl rfl (fun _ _ _ h => h) (fun _ => hT) ?_
          refine al_gskip (i := 24) rfl (by kernel_rfl) (by kernel_rfl) (by kernel_rfl) rfl rfl rfl rfl (fun _ _ _ h => h) (fun _ => hT) ?_
          refine al_gskip (i := 25) rfl (by kernel_rfl) (by kernel_rfl) (by kernel_rfl) rfl rfl rfl rfl (fun _ _ _ h => h) (fun _ => hT) ?_
          refine al_gskip (i := 26) rfl (by kernel_rfl) (by kernel_rfl) (by kernel_rfl) rfl rfl rfl rfl (fun _ _ _ h => h) (fun _ => hT) ?_
          -- r4.27 t39 := pick  t28 t38 Cfalse ?13=False
          refine al_gtake (i := 27) rfl (by kernel_rfl) (by kernel_rfl) (by kernel_rfl) rfl rfl rfl (fun _ _ _ h => h) (op_pick_f rfl rfl) rfl ?_
          -- r4.28 t40 := pick  t25 Ctrue t39
          refine al_take (i := 28) rfl (by kernel_rfl) (by kernel_rfl) (by kernel_rfl) rfl (fun _ _ _ h => h) (op_pick_f rfl rfl) rfl ?_
          refine al_done (by kernel_rfl) ?_
          refine pq_then ?_
          refine cw_cond_f rfl ?_
          refine cw_skip ?_
          refine pq_in_normal ?_
          refine pq_then ?_
          refine cw_region ?_
          -- r3.0 t10 := move  t5
          refine ol_pure rfl (op_move rfl) ?_
          -- r3.1 t11 := add t10 C1
          refine ol_pure rfl (op_add rfl rfl (by omega) (by omega)) ?_
          -- r3.2 t5 := assign  t11
          refine ol_pure rfl (op_assign rfl) ?_
          refine ol_nil ?_
          -- end of round 1 h9t h17f h25f h28f
          refine pq_loop _ _ (by exact ⟨k + 1, rfl, by omega, rfl, by rw [Pl.all_take_succ _ _ _ hlt, hp]; simp; omega, Pl.pairwise_take_succ hlt hq (.inl (by omega)), hS⟩) ((Sub.cons rfl (Sub.cons rfl (Sub.cons rfl Sub.nil)))) (by omega)
  · skip
    try simp only [decide_eq_true_eq, decide_eq_false_iff_not, Bool.not_eq_true', Bool.not_eq_false', Bool.not_eq_eq_eq_not, Bool.not_true, Bool.not_false] at h9
    refine cw_exit ?_
    refine pq_exit ?_
    refine pq_exit ?_
    refine pq_in_exit ?_
    refine pq_then ?_
    refine cw_seq ?_
    refine cw_region ?_
    -- r6.0 t4 := assign  Ctrue
    refine ol_pure rfl (op_assign rfl) ?_
    refine ol_nil ?_
    refine pq_then ?_
    refine cw_ret ?_
    refine ret1 rfl rfl ?_
    -- ret2 h9f
    rw [List.take_of_length_le (by omega)] at hp hq
    exact hS.sc_b (by rw [setI, hp, decide_eq_true hq]; rfl)
end Go.Proofs.Ytbpmkidaoemebaa.K
