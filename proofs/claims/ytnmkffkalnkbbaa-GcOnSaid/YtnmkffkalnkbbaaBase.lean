/-
  Rows of numbers and of Bools: in, all, any, the same.
  No condition but the premises that each theorem names.
-/
import Derived.Test.YtnmkffkalnkbbaaTy
import Derived.Test.YtnmkffkalnkbbaaPl
namespace Go.Proofs.Ytnmkffkalnkbbaa.K
open Go Go.RowKit
set_option linter.unusedVariables false
set_option linter.unusedSimpArgs false

open Pl
def ERule : ER Rule := fun G cs r => ∃ p q, cs = [.int .i64 r.head, p, q] ∧ RSl 1 EInt G p r.pos ∧ RSl 1 EInt G q r.neg ∧ -9223372036854775808 ≤ r.head ∧ r.head ≤ 9223372036854775807
theorem ERule.mono : EMono ERule := fun _ _ _ _ hl ⟨p, q, h1, h2, h3, h4⟩ => ⟨p, q, h1, h2.mono EInt.mono hl, h3.mono EInt.mono hl, h4⟩

set_option maxRecDepth 100000 in

theorem R08_Ints_c (G : GH) (w0 : World) (hG : Holds G w0) (v u : Value) (a b : List Int) (h1 : RSl 1 EInt G v a) (h2 : RSl 1 EInt G u b) :
   Calls Try.prog 19 #[v, u] w0 (Sc w0 (.bool (decide (a = b)))) := by
 obtain ⟨oa, c, rfl, hlc, hcm⟩ := h1.elim
 obtain ⟨ob, d, rfl, hld, hdm⟩ := h2.elim
 have hle := h1.le
 refine enter Try.func19 rfl (N := 26) rfl (Nat.le_of_ble_eq_true rfl) ?_
 have hS := SS.init hG
 refine cw_seq (cw_region (ol_pure rfl (op_assign rfl) (ol_nil (pq_then (cw_seq (cw_seq (cw_region ?_)))))))
 refine ol_pure rfl (op_move rfl) (ol_pure rfl (op_len sl_26 rfl rfl) (ol_pure rfl (op_move rfl) (ol_pure rfl (op_len sl_26 rfl rfl) (ol_pure rfl (op_neq rfl rfl) (ol_nil (pq_then ?_))))))
 refine cw_cond rfl (fun h10 => ?_) (fun h10 => ?_)
 ·
  try simp only [dqT, dqF, dq1, dq2, dq3, dq4, dq5] at h10
  have hne : a.length ≠ b.length := by omega
  refine cw_seq (cw_region (ol_pure rfl (op_assign rfl) (ol_nil (pq_then (cw_ret (pq_ret (ret1 rfl rfl ?_)))))))
  exact hS.sc_b (by symm; rw [decide_eq_false_iff_not]; exact fun hh => hne (by rw [hh]))
 ·
  try simp only [dqT, dqF, dq1, dq2, dq3, dq4, dq5] at h10
  have hll : a.length = b.length := by omega
  refine cw_skip (pq_then (cw_seq (cw_seq (cw_region (ol_pure rfl (op_assign rfl) (ol_nil (pq_then ?_)))))))
  refine cw_block ?_
  refine cw_loop (fun e w n => ∃ k : Nat, e = [(0, .slice oa a.length c), (1, .slice ob b.length d), (5, .int .i64 (k : Nat))] ∧ k ≤ a.length ∧ n = a.length - k ∧ a.take k = b.take k ∧ SS G w0 G [] w) _ _ (by exact ⟨0, rfl, Nat.zero_le _, rfl, rfl, hS⟩) ((Sub.cons rfl (Sub.cons rfl (Sub.cons rfl Sub.nil)))) ?_
  clear hS
  rintro e w n ⟨k, rfl, hk, rfl, hp, hS⟩
  refine cw_seq (cw_seq (cw_region (ol_pure rfl (op_move rfl) (ol_pure rfl (op_move rfl) (ol_pure rfl (op_len sl_26 rfl rfl) (ol_pure rfl (op_lss rfl rfl) (ol_nil ?_)))))))
  refine pq_then ?_
  refine cw_cond rfl (fun h14 => ?_) (fun h14 => ?_)
  ·
   try simp only [dqT, dqF, dq1, dq2, dq3, dq4, dq5] at h14
   have ha : k < a.length := by omega
   have hb : k < b.length := by omega
   obtain ⟨hoa, hc1, hb1⟩ := h1.int ha
   obtain ⟨hob, hc2, hb2⟩ := h2.int hb
   refine cw_skip (pq_then (cw_seq (cw_block (cw_seq ?_))))
   refine al_start' hS (hS.take 0) (by kernel_rfl) rfl (fun w hS hT => ?_)
   refine al_take (i := 0) rfl (by kernel_rfl) (by kernel_rfl) (by kernel_rfl) rfl (fun _ _ _ h => h) (op_move rfl) rfl (al_take (i := 1) rfl (by kernel_rfl) (by kernel_rfl) (by kernel_rfl) rfl (fun _ _ _ h => h) (op_move rfl) rfl (al_take (i := 2) rfl (by kernel_rfl) (by kernel_rfl) (by kernel_rfl) rfl (fun _ _ _ h => h) (op_indexN sl_26 rfl rfl (by omega) (by assumption)) rfl (al_load (i := 3) rfl (by kernel_rfl) (by kernel_rfl) (by kernel_rfl) rfl (fun _ _ _ h => h) (by exact op_load1 one_3 rfl (fun w hw => by first | exact hw.gcell (by assumption) | exact hw.gcell0 (by assumption))) rfl hT (al_take (i := 4) rfl (by kernel_rfl) (by kernel_rfl) (by kernel_rfl) rfl (fun _ _ _ h => h) (op_move rfl) rfl (al_take (i := 5) rfl (by kernel_rfl) (by kernel_rfl) (by kernel_rfl) rfl (fun _ _ _ h => h) (op_move rfl) rfl (al_take (i := 6) rfl (by kernel_rfl) (by kernel_rfl) (by kernel_rfl) rfl (fun _ _ _ h => h) (op_indexN sl_26 rfl rfl (by omega) (by assumption)) rfl (al_load (i := 7) rfl (by kernel_rfl) (by kernel_rfl) (by kernel_rfl) rfl (fun _ _ _ h => h) (by exact op_load1 one_3 rfl (fun w hw => by first | exact hw.gcell (by assumption) | exact hw.gcell0 (by assumption))) rfl hT ?_)))))))
   refine al_take (i := 8) rfl (by kernel_rfl) (by kernel_rfl) (by kernel_rfl) rfl (fun _ _ _ h => h) (op_neq rfl rfl) rfl (al_done (by kernel_rfl) (pq_then ?_))
   refine cw_cond rfl (fun h25 => ?_) (fun h25 => ?_)
   ·
    try simp only [dqT, dqF, dq1, dq2, dq3, dq4, dq5] at h25
    refine cw_seq (cw_region (ol_pure rfl (op_assign rfl) (ol_nil (pq_then (cw_ret (pq_in_ret (pq_ret ?_)))))))
    refine pq_ret (pq_in_ret (pq_ret (ret1 rfl rfl ?_)))
    exact hS.sc_b (by symm; rw [decide_eq_false_iff_not]; exact Pl.ne_of_at ha hb h25)
   ·
    try simp only [dqT, dqF, dq1, dq2, dq3, dq4, dq5] at h25
    refine cw_skip (pq_in_normal (pq_then (cw_region (ol_pure rfl (op_move rfl) (ol_pure rfl (op_add rfl rfl (by omega) (by omega)) (ol_pure rfl (op_assign rfl) (ol_nil ?_)))))))
    refine pq_loop _ _ (by exact ⟨k + 1, rfl, by omega, rfl, Pl.take_eq_succ ha hb hp h25, hS⟩) ((Sub.cons rfl (Sub.cons rfl (Sub.cons rfl Sub.nil)))) (by omega)
  ·
   try simp only [dqT, dqF, dq1, dq2, dq3, dq4, dq5] at h14
   refine cw_exit (pq_exit (pq_exit (pq_in_exit (pq_then (cw_seq (cw_region (ol_pure rfl (op_assign rfl) ?_)))))))
   refine ol_nil (pq_then (cw_ret (ret1 rfl rfl ?_)))
   exact hS.sc_b (by symm; rw [decide_eq_true_eq]; exact Pl.eq_of_take hll (by omega) hp)
set_option maxRecDepth 100000 in

theorem R01_In_c (G : GH) (w0 : World) (hG : Holds G w0) (v : Value) (l : List Int) (x : Int) (h1 : RSl 1 EInt G v l) :
   Calls Try.prog 48 #[v, .int .i64 x] w0 (Sc w0 (.bool (decide (x ∈ l)))) := by
 obtain ⟨oa, c, rfl, hlc, hcm⟩ := h1.elim
 have hle := h1.le
 refine enter Try.func48 rfl (N := 18) rfl (Nat.le_of_ble_eq_true rfl) ?_
 have hS := SS.init hG
 refine cw_seq (cw_region (ol_pure rfl (op_assign rfl) (ol_nil (pq_then (cw_seq (cw_seq (cw_region ?_)))))))
 refine ol_pure rfl (op_assign rfl) (ol_nil (pq_then (cw_block ?_)))
 refine cw_loop (fun e w n => ∃ k : Nat, e = [(0, .slice oa l.length c), (1, .int .i64 x), (5, .int .i64 (k : Nat))] ∧ k ≤ l.length ∧ n = l.length - k ∧ x ∉ l.take k ∧ SS G w0 G [] w) _ _ (by exact ⟨0, rfl, Nat.zero_le _, rfl, by simp, hS⟩) ((Sub.cons rfl (Sub.cons rfl (Sub.cons rfl Sub.nil)))) ?_
 clear hS
 rintro e w n ⟨k, rfl, hk, rfl, hp, hS⟩
 refine cw_seq (cw_seq (cw_region (ol_pure rfl (op_move rfl) (ol_pure rfl (op_move rfl) (ol_pure rfl (op_len sl_26 rfl rfl) (ol_pure rfl (op_lss rfl rfl) (ol_nil ?_)))))))
 refine pq_then ?_
 refine cw_cond rfl (fun h9 => ?_) (fun h9 => ?_)
 ·
  try simp only [dqT, dqF, dq1, dq2, dq3, dq4, dq5] at h9
  have hlt : k < l.length := by omega
  obtain ⟨hoa, hc, hb⟩ := h1.int hlt
  refine cw_skip (pq_then (cw_seq (cw_block (cw_seq (cw_region (ol_pure rfl (op_move rfl) (ol_pure rfl (op_move rfl) ?_)))))))
  refine ol_pure rfl (op_indexN sl_26 rfl rfl (by omega) (by assumption)) (ol_load rfl (op_load1 one_3 rfl (fun w hw => by first | exact hw.gcell (by assumption) | exact hw.gcell0 (by assumption))) hS (ol_pure rfl (op_move rfl) (ol_pure rfl (op_eql rfl rfl) (ol_nil (pq_then ?_)))))
  refine cw_cond rfl (fun h17 => ?_) (fun h17 => ?_)
  ·
   try simp only [dqT, dqF, dq1, dq2, dq3, dq4, dq5] at h17
   refine cw_seq (cw_region (ol_pure rfl (op_assign rfl) (ol_nil (pq_then (cw_ret (pq_in_ret (pq_ret ?_)))))))
   refine pq_ret (pq_in_ret (pq_ret (ret1 rfl rfl ?_)))
   exact hS.sc_b (by symm; rw [decide_eq_true_eq, ← h17]; exact List.getElem_mem hlt)
  ·
   try simp only [dqT, dqF, dq1, dq2, dq3, dq4, dq5] at h17
   refine cw_skip (pq_in_normal (pq_then (cw_region (ol_pure rfl (op_move rfl) (ol_pure rfl (op_add rfl rfl (by omega) (by omega)) (ol_pure rfl (op_assign rfl) (ol_nil ?_)))))))
   refine pq_loop _ _ (by exact ⟨k + 1, rfl, by omega, rfl, Pl.mem_take_succ hlt hp h17, hS⟩) ((Sub.cons rfl (Sub.cons rfl (Sub.cons rfl Sub.nil)))) (by omega)
 ·
  try simp only [dqT, dqF, dq1, dq2, dq3, dq4, dq5] at h9
  refine cw_exit (pq_exit (pq_exit (pq_in_exit (pq_then (cw_seq (cw_region (ol_pure rfl (op_assign rfl) ?_)))))))
  refine ol_nil (pq_then (cw_ret (ret1 rfl rfl ?_)))
  exact hS.sc_b (by symm; rw [decide_eq_false_iff_not]; exact Pl.not_mem_of_take (by omega) hp)
end Go.Proofs.Ytnmkffkalnkbbaa.K
