/-
  Heaps and marks that are the same; heaps that are right.
  No condition but the premises that each theorem names.
-/
import Derived.Test.YtnmkffkalnkbbaaGc2
namespace Go.Proofs.Ytnmkffkalnkbbaa.K
open Go Go.RowKit
set_option linter.unusedVariables false
set_option linter.unusedSimpArgs false

open Pl
theorem sameC_eq {x y : Cell} : sameC x y = true ↔ x.kind = y.kind ∧ x.name.toList = y.name.toList ∧ x.n = y.n := by simp [sameC, and_assoc]
def sameL : List Cell → List Cell → Bool
  | [], [] => true
  | x :: a, y :: b => sameC x y && sameL a b
  | _, _ => false
theorem sameL_refl (a : List Cell) : sameL a a = true := by
  induction a with
  | nil => rfl
  | cons x a ih => simp [sameL, ih, sameC]
theorem leadsI_len {cs : List Cell} (hs : ShOk cs) {p : Nat} (h : p < cs.length) : (leadsI cs (p : Int)).length ≤ 6 := by
  have hso := hs p h
  unfold SlotOk at hso
  rw [leadsI_at h]
  split
  · simp
  · split
    · simp; omega
    · simp

set_option maxRecDepth 100000 in
set_option maxHeartbeats 1000000 in

theorem R08_Same_c (G : GH) (w0 : World) (hG : Holds G w0) (hv hv2 : Value) (cs cs2 : List Cell) (tr tr2 : List Int) (room room2 : Int) (hh : EHeap G hv cs tr room) (hh2 : EHeap G hv2 cs2 tr2 room2) (e1 : cs = cs2) (e2 : tr = tr2) (e3 : room = room2) :
   Calls Try.prog 18 #[hv, hv2] w0 (Sc w0 (.bool true)) := by
 subst e1
 subst e2
 subst e3
 have hh0 := hh
 obtain ⟨oc, cc, ot, ct, rfl, h1, h2⟩ := hh
 have hle := h1.le
 have hle2 := h2.le
 obtain ⟨oc2, cc2, ot2, ct2, rfl, h12, h22⟩ := hh2
 refine enter Try.func18 rfl (N := 66) rfl (Nat.le_of_ble_eq_true rfl) ?_
 have hS := SS.init hG
 refine cw_seq (cw_region ?_)
 refine ol_step rfl (op_box hS rfl rfl) ?_
 clear hS
 rintro _ w ⟨b2, rfl, hS⟩
 refine ol_step rfl (op_box hS rfl rfl) ?_
 clear hS
 rintro _ w ⟨b3, rfl, hS⟩
 refine ol_pure rfl (op_assign rfl) (ol_nil (pq_then (cw_seq (cw_seq (cw_region (ol_pure rfl (op_fieldAddr fld_28_0 rfl) (ol_load rfl (op_load1 one_25 rfl (fun w hw => (hw.bcell (i := 1) rfl).trans rfl)) hS ?_)))))))
 refine ol_pure rfl (op_len sl_25 rfl rfl) (ol_pure rfl (op_fieldAddr fld_28_0 rfl) (ol_load rfl (op_load1 one_25 rfl (fun w hw => (hw.bcell (i := 0) rfl).trans rfl)) hS (ol_pure rfl (op_len sl_25 rfl rfl) (ol_pure rfl (op_neq rfl rfl) (ol_pure rfl (op_move rfl) ?_)))))
 refine ol_split (fun h14 => ?_) (fun h14 => ?_)
 ·
  try simp only [dqT, dqF, dq1, dq2, dq3, dq4, dq5] at h14
  refine ol_guard_no rfl rfl rfl rfl (ol_guard_no rfl rfl rfl rfl (ol_guard_no rfl rfl rfl rfl (ol_guard_no rfl rfl rfl rfl (ol_guard_no rfl rfl rfl rfl (ol_guard_no rfl rfl rfl rfl (ol_guard_no rfl rfl rfl rfl (ol_pure rfl (op_pick_t rfl rfl) ?_)))))))
  refine ol_pure rfl (op_move rfl) (ol_guard_no rfl rfl rfl rfl (ol_guard_no rfl rfl rfl rfl (ol_guard_no rfl rfl rfl rfl (ol_guard_no rfl rfl rfl rfl (ol_guard_no rfl rfl rfl rfl (ol_pure rfl (op_pick_t rfl rfl) (ol_nil ?_)))))))
  refine pq_then (cw_cond_t rfl (cw_seq (cw_region (ol_pure rfl (op_assign rfl) (ol_nil (pq_then (cw_ret ?_)))))))
  refine pq_ret (ret1 rfl rfl ?_)
  first | exact hS.sc_b rfl | (exfalso; first | omega | (simp at h47) | simp_all)
 ·
  try simp only [dqT, dqF, dq1, dq2, dq3, dq4, dq5] at h14
  refine ol_guard_pure rfl rfl rfl (op_fieldAddr fld_28_1 rfl) (ol_guard_load rfl rfl rfl (op_load1 one_26 rfl (fun w hw => (hw.bcell (i := 1) rfl).trans rfl)) hS (ol_guard_pure rfl rfl rfl (op_len sl_26 rfl rfl) (ol_guard_pure rfl rfl rfl (op_fieldAddr fld_28_1 rfl) (ol_guard_load rfl rfl rfl (op_load1 one_26 rfl (fun w hw => (hw.bcell (i := 0) rfl).trans rfl)) hS (ol_guard_pure rfl rfl rfl (op_len sl_26 rfl rfl) (ol_guard_pure rfl rfl rfl (op_neq rfl rfl) (ol_pure rfl (op_pick_f rfl rfl) ?_)))))))
  refine ol_pure rfl (op_move rfl) ?_
  refine ol_split (fun h23 => ?_) (fun h23 => ?_)
  ·
   try simp only [dqT, dqF, dq1, dq2, dq3, dq4, dq5] at h23
   refine ol_guard_no rfl rfl rfl rfl (ol_guard_no rfl rfl rfl rfl (ol_guard_no rfl rfl rfl rfl (ol_guard_no rfl rfl rfl rfl (ol_guard_no rfl rfl rfl rfl (ol_pure rfl (op_pick_t rfl rfl) (ol_nil (pq_then ?_)))))))
   refine cw_cond_t rfl (cw_seq (cw_region (ol_pure rfl (op_assign rfl) (ol_nil (pq_then (cw_ret (pq_ret ?_)))))))
   refine ret1 rfl rfl ?_
   first | exact hS.sc_b rfl | (exfalso; first | omega | (simp at h47) | simp_all)
  ·
   try simp only [dqT, dqF, dq1, dq2, dq3, dq4, dq5] at h23
   refine ol_guard_pure rfl rfl rfl (op_fieldAddr fld_28_2 rfl) (ol_guard_load rfl rfl rfl (op_load1 one_3 rfl (fun w hw => (hw.bcell (i := 1) rfl).trans rfl)) hS (ol_guard_pure rfl rfl rfl (op_fieldAddr fld_28_2 rfl) (ol_guard_load rfl rfl rfl (op_load1 one_3 rfl (fun w hw => (hw.bcell (i := 0) rfl).trans rfl)) hS (ol_guard_pure rfl rfl rfl (op_neq rfl rfl) (ol_pure rfl (op_pick_f rfl rfl) (ol_nil (pq_then ?_)))))))
   refine cw_cond rfl (fun h29 => ?_) (fun h29 => ?_)
   ·
    try simp only [dqT, dqF, dq1, dq2, dq3, dq4, dq5] at h29
    refine cw_seq (cw_region (ol_pure rfl (op_assign rfl) (ol_nil (pq_then (cw_ret (pq_ret (ret1 rfl rfl ?_)))))))
    first | exact hS.sc_b rfl | (exfalso; first | omega | (simp at h47) | simp_all)
   ·
    try simp only [dqT, dqF, dq1, dq2, dq3, dq4, dq5] at h29
    refine cw_skip (pq_then (cw_seq (cw_seq (cw_region (ol_pure rfl (op_assign rfl) (ol_nil (pq_then ?_)))))))
    refine cw_block ?_
    refine cw_loop (fun e w n => ∃ k : Nat, e = [(2, .pointer (some ⟨b2, 0, none⟩)), (3, .pointer (some ⟨b3, 0, none⟩)), (5, .int .i64 (k : Nat))] ∧ k ≤ cs.length ∧ n = cs.length - k ∧ SS G w0 G [.blk b3 28 [.slice oc2 cs.length cc2, .slice ot2 tr.length ct2, .int .i64 room], .blk b2 28 [.slice oc cs.length cc, .slice ot tr.length ct, .int .i64 room]] w) _ _ (by exact ⟨0, rfl, Nat.zero_le _, rfl, hS⟩) ((Sub.cons rfl (Sub.cons rfl (Sub.cons rfl Sub.nil)))) ?_
    clear hS
    rintro e w n ⟨k, rfl, hk, rfl, hS⟩
    refine cw_seq (cw_seq (cw_region (ol_pure rfl (op_move rfl) (ol_pure rfl (op_fieldAddr fld_28_0 rfl) (ol_load rfl (op_load1 one_25 rfl (fun w hw => (hw.bcell (i := 1) rfl).trans rfl)) hS (ol_pure rfl (op_len sl_25 rfl rfl) (ol_pure rfl (op_lss rfl rfl) ?_)))))))
    refine ol_nil (pq_then ?_)
    refine cw_cond rfl (fun h34 => ?_) (fun h34 => ?_)
    ·
     try simp only [dqT, dqF, dq1, dq2, dq3, dq4, dq5] at h34
     have hlt : k < cs.length := by omega
     obtain ⟨hoc, hbd, hcells⟩ := h1.cellAt hlt
     obtain ⟨hoc2, hbd2, hcells2⟩ := h12.cellAt hlt
     refine cw_skip (pq_then (cw_seq (cw_block (cw_seq ?_))))
     refine al_start' hS (hS.take 2) (by kernel_rfl) rfl (fun w hS hT => ?_)
     refine al_take (i := 0) rfl (by kernel_rfl) (by kernel_rfl) (by kernel_rfl) rfl (fun _ _ _ h => h) (op_fieldAddr fld_28_0 rfl) rfl (al_load (i := 1) rfl (by kernel_rfl) (by kernel_rfl) (by kernel_rfl) rfl (fun _ _ _ h => h) (by exact op_load1 one_25 rfl (fun w hw => (hw.bcell (i := 1) rfl).trans rfl)) rfl hT (al_take (i := 2) rfl (by kernel_rfl) (by kernel_rfl) (by kernel_rfl) rfl (fun _ _ _ h => h) (op_move rfl) rfl (al_take (i := 3) rfl (by kernel_rfl) (by kernel_rfl) (by kernel_rfl) rfl (fun _ _ _ h => h) (op_indexN sl_25 rfl rfl (by omega) hoc) rfl (al_load (i := 4) rfl (by kernel_rfl) (by kernel_rfl) (by kernel_rfl) rfl (fun _ _ _ h => h) (by exact op_loadN agg_49 rfl (by rfl) (fun w hw k u hk => hw.gcell (hcells k u hk))) rfl hT (al_take (i := 5) rfl (by kernel_rfl) (by kernel_rfl) (by kernel_rfl) rfl (fun _ _ _ h => h) (op_fieldAddr fld_28_0 rfl) rfl (al_load (i := 6) rfl (by kernel_rfl) (by kernel_rfl) (by kernel_rfl) rfl (fun _ _ _ h => h) (by exact op_load1 one_25 rfl (fun w hw => (hw.bcell (i := 0) rfl).trans rfl)) rfl hT (al_take (i := 7) rfl (by kernel_rfl) (by kernel_rfl) (by kernel_rfl) rfl (fun _ _ _ h => h) (op_move rfl) rfl ?_)))))))
     refine al_take (i := 8) rfl (by kernel_rfl) (by kernel_rfl) (by kernel_rfl) rfl (fun _ _ _ h => h) (op_indexN sl_25 rfl rfl (by omega) hoc2) rfl (al_load (i := 9) rfl (by kernel_rfl) (by kernel_rfl) (by kernel_rfl) rfl (fun _ _ _ h => h) (by exact op_loadN agg_49 rfl (by rfl) (fun w hw k u hk => hw.gcell (hcells2 k u hk))) rfl hT (al_take (i := 10) rfl (by kernel_rfl) (by kernel_rfl) (by kernel_rfl) rfl (fun _ _ _ h => h) (op_neqC cell_49 rfl rfl) rfl (al_done (by kernel_rfl) (pq_then ?_))))
     refine cw_cond rfl (fun h47 => ?_) (fun h47 => ?_)
     ·
      try simp only [dqT, dqF, dq1, dq2, dq3, dq4, dq5] at h47
      refine cw_seq (cw_region (ol_pure rfl (op_assign rfl) (ol_nil (pq_then (cw_ret (pq_in_ret (pq_ret ?_)))))))
      refine pq_ret (pq_in_ret (pq_ret (ret1 rfl rfl ?_)))
      first | exact hS.sc_b rfl | (exfalso; first | omega | (simp at h47) | simp_all)
     ·
      try simp only [dqT, dqF, dq1, dq2, dq3, dq4, dq5] at h47
      refine cw_skip (pq_in_normal (pq_then (cw_region (ol_pure rfl (op_move rfl) (ol_pure rfl (op_add rfl rfl (by omega) (by omega)) (ol_pure rfl (op_assign rfl) (ol_nil ?_)))))))
      refine pq_loop _ _ (by exact ⟨k + 1, rfl, by omega, rfl, hS⟩) ((Sub.cons rfl (Sub.cons rfl (Sub.cons rfl Sub.nil)))) (by omega)
    ·
     try simp only [dqT, dqF, dq1, dq2, dq3, dq4, dq5] at h34
     refine cw_exit (pq_exit (pq_exit (pq_in_exit (pq_then (cw_seq (cw_seq (cw_region ?_)))))))
     refine ol_pure rfl (op_assign rfl) (ol_nil (pq_then (cw_block ?_)))
     refine cw_loop (fun e w n => ∃ k : Nat, e = [(2, .pointer (some ⟨b2, 0, none⟩)), (3, .pointer (some ⟨b3, 0, none⟩)), (6, .int .i64 (k : Nat))] ∧ k ≤ tr.length ∧ n = tr.length - k ∧ SS G w0 G [.blk b3 28 [.slice oc2 cs.length cc2, .slice ot2 tr.length ct2, .int .i64 room], .blk b2 28 [.slice oc cs.length cc, .slice ot tr.length ct, .int .i64 room]] w) _ _ (by exact ⟨0, rfl, Nat.zero_le _, rfl, hS⟩) ((Sub.cons rfl (Sub.cons rfl (Sub.cons rfl Sub.nil)))) ?_
     clear hS
     rintro e w n ⟨k, rfl, hk, rfl, hS⟩
     refine cw_seq (cw_seq (cw_region (ol_pure rfl (op_move rfl) (ol_pure rfl (op_fieldAddr fld_28_1 rfl) (ol_load rfl (op_load1 one_26 rfl (fun w hw => (hw.bcell (i := 1) rfl).trans rfl)) hS (ol_pure rfl (op_len sl_26 rfl rfl) (ol_pure rfl (op_lss rfl rfl) ?_)))))))
     refine ol_nil (pq_then ?_)
     refine cw_cond rfl (fun h52 => ?_) (fun h52 => ?_)
     ·
      try simp only [dqT, dqF, dq1, dq2, dq3, dq4, dq5] at h52
      have hlt : k < tr.length := by omega
      obtain ⟨hoc, hc, hb⟩ := h2.int hlt
      obtain ⟨hoc2, hc2, hb2⟩ := h22.int hlt
      refine cw_skip (pq_then (cw_seq (cw_block (cw_seq ?_))))
      refine al_start' hS (hS.take 2) (by kernel_rfl) rfl (fun w hS hT => ?_)
      refine al_take (i := 0) rfl (by kernel_rfl) (by kernel_rfl) (by kernel_rfl) rfl (fun _ _ _ h => h) (op_fieldAddr fld_28_1 rfl) rfl (al_load (i := 1) rfl (by kernel_rfl) (by kernel_rfl) (by kernel_rfl) rfl (fun _ _ _ h => h) (by exact op_load1 one_26 rfl (fun w hw => (hw.bcell (i := 1) rfl).trans rfl)) rfl hT (al_take (i := 2) rfl (by kernel_rfl) (by kernel_rfl) (by kernel_rfl) rfl (fun _ _ _ h => h) (op_move rfl) rfl (al_take (i := 3) rfl (by kernel_rfl) (by kernel_rfl) (by kernel_rfl) rfl (fun _ _ _ h => h) (op_indexN sl_26 rfl rfl (by omega) hoc) rfl (al_load (i := 4) rfl (by kernel_rfl) (by kernel_rfl) (by kernel_rfl) rfl (fun _ _ _ h => h) (by exact op_load1 one_3 rfl (fun w hw => hw.gcell hc)) rfl hT (al_take (i := 5) rfl (by kernel_rfl) (by kernel_rfl) (by kernel_rfl) rfl (fun _ _ _ h => h) (op_fieldAddr fld_28_1 rfl) rfl (al_load (i := 6) rfl (by kernel_rfl) (by kernel_rfl) (by kernel_rfl) rfl (fun _ _ _ h => h) (by exact op_load1 one_26 rfl (fun w hw => (hw.bcell (i := 0) rfl).trans rfl)) rfl hT (al_take (i := 7) rfl (by kernel_rfl) (by kernel_rfl) (by kernel_rfl) rfl (fun _ _ _ h => h) (op_move rfl) rfl ?_)))))))
      refine al_take (i := 8) rfl (by kernel_rfl) (by kernel_rfl) (by kernel_rfl) rfl (fun _ _ _ h => h) (op_indexN sl_26 rfl rfl (by omega) hoc2) rfl (al_load (i := 9) rfl (by kernel_rfl) (by kernel_rfl) (by kernel_rfl) rfl (fun _ _ _ h => h) (by exact op_load1 one_3 rfl (fun w hw => hw.gcell hc2)) rfl hT (al_take (i := 10) rfl (by kernel_rfl) (by kernel_rfl) (by kernel_rfl) rfl (fun _ _ _ h => h) (op_neq rfl rfl) rfl (al_done (by kernel_rfl) (pq_then ?_))))
      refine cw_cond rfl (fun h65 => ?_) (fun h65 => ?_)
      ·
       try simp only [dqT, dqF, dq1, dq2, dq3, dq4, dq5] at h65
       refine cw_seq (cw_region (ol_pure rfl (op_assign rfl) (ol_nil (pq_then (cw_ret (pq_in_ret (pq_ret ?_)))))))
       refine pq_ret (pq_in_ret (pq_ret (ret1 rfl rfl ?_)))
       first | exact hS.sc_b rfl | (exfalso; first | omega | (simp at h47) | simp_all)
      ·
       try simp only [dqT, dqF, dq1, dq2, dq3, dq4, dq5] at h65
       refine cw_skip (pq_in_normal (pq_then (cw_region (ol_pure rfl (op_move rfl) (ol_pure rfl (op_add rfl rfl (by omega) (by omega)) (ol_pure rfl (op_assign rfl) (ol_nil ?_)))))))
       refine pq_loop _ _ (by exact ⟨k + 1, rfl, by omega, rfl, hS⟩) ((Sub.cons rfl (Sub.cons rfl (Sub.cons rfl Sub.nil)))) (by omega)
     ·
      try simp only [dqT, dqF, dq1, dq2, dq3, dq4, dq5] at h52
      refine cw_exit (pq_exit (pq_exit (pq_in_exit (pq_then (cw_seq (cw_region (ol_pure rfl (op_assign rfl) ?_)))))))
      refine ol_nil (pq_then (cw_ret (ret1 rfl rfl ?_)))
      first | exact hS.sc_b rfl | (exfalso; first | omega | (simp at h47) | simp_all)
set_option maxRecDepth 100000 in
set_option maxHeartbeats 1000000 in

theorem R09_SameMarks_c (G : GH) (w0 : World) (hG : Holds G w0) (v u : Value) (a : List Mk) (h1 : RSl 3 EMk G v a) (h2 : RSl 3 EMk G u a) :
   Calls Try.prog 20 #[v, u] w0 (Sc w0 (.bool true)) := by
 obtain ⟨oa, ca, rfl, hla, hma⟩ := h1.elim
 obtain ⟨ob, cb, rfl, hlb, hmb⟩ := h2.elim
 have hle := h1.le
 refine enter Try.func20 rfl (N := 55) rfl (Nat.le_of_ble_eq_true rfl) ?_
 have hS := SS.init hG
 refine cw_seq (cw_region (ol_pure rfl (op_assign rfl) (ol_nil (pq_then (cw_seq (cw_seq (cw_region ?_)))))))
 refine ol_pure rfl (op_move rfl) (ol_pure rfl (op_len sl_29 rfl rfl) (ol_pure rfl (op_move rfl) (ol_pure rfl (op_len sl_29 rfl rfl) (ol_pure rfl (op_neq rfl rfl) (ol_nil (pq_then ?_))))))
 refine cw_cond rfl (fun h10 => ?_) (fun h10 => ?_)
 ·
  try simp only [dqT, dqF, dq1, dq2, dq3, dq4, dq5] at h10
  refine cw_seq (cw_region (ol_pure rfl (op_assign rfl) (ol_nil (pq_then (cw_ret (pq_ret (ret1 rfl rfl ?_)))))))
  first | exact hS.sc_b rfl | (exfalso; first | omega | simp_all)
 ·
  try simp only [dqT, dqF, dq1, dq2, dq3, dq4, dq5] at h10
  refine cw_skip (pq_then (cw_seq (cw_seq (cw_region (ol_pure rfl (op_assign rfl) (ol_nil (pq_then ?_)))))))
  refine cw_block ?_
  refine cw_loop (fun e w n => ∃ k : Nat, e = [(0, .slice oa a.length ca), (1, .slice ob a.length cb), (5, .int .i64 (k : Nat))] ∧ k ≤ a.length ∧ n = a.length - k ∧ SS G w0 G [] w) _ _ (by exact ⟨0, rfl, Nat.zero_le _, rfl, hS⟩) ((Sub.cons rfl (Sub.cons rfl (Sub.cons rfl Sub.nil)))) ?_
  clear hS
  rintro e w n ⟨k, rfl, hk, rfl, hS⟩
  refine cw_seq (cw_seq (cw_region (ol_pure rfl (op_move rfl) (ol_pure rfl (op_move rfl) (ol_pure rfl (op_len sl_29 rfl rfl) (ol_pure rfl (op_lss rfl rfl) (ol_nil ?_)))))))
  refine pq_then ?_
  refine cw_cond rfl (fun h14 => ?_) (fun h14 => ?_)
  ·
   try simp only [dqT, dqF, dq1, dq2, dq3, dq4, dq5] at h14
   have hlt : k < a.length := by omega
   obtain ⟨hoa, o1, d1, hr1, hb1, hc1⟩ := h1.mkAt hlt
   obtain ⟨hob, o2, d2, hr2, hb2, hc2⟩ := h2.mkAt hlt
   refine cw_skip (pq_then (cw_seq (cw_block (cw_seq ?_))))
   refine al_start' hS (hS.take 0) (by kernel_rfl) rfl (fun w hS hT => ?_)
   refine al_take (i := 0) rfl (by kernel_rfl) (by kernel_rfl) (by kernel_rfl) rfl (fun _ _ _ h => h) (op_move rfl) rfl (al_take (i := 1) rfl (by kernel_rfl) (by kernel_rfl) (by kernel_rfl) rfl (fun _ _ _ h => h) (op_move rfl) rfl (al_take (i := 2) rfl (by kernel_rfl) (by kernel_rfl) (by kernel_rfl) rfl (fun _ _ _ h => h) (op_indexN sl_29 rfl rfl (by omega) hoa) rfl (al_take (i := 3) rfl (by kernel_rfl) (by kernel_rfl) (by kernel_rfl) rfl (fun _ _ _ h => h) (op_fieldAddr fld_46_0 rfl) rfl (al_load (i := 4) rfl (by kernel_rfl) (by kernel_rfl) (by kernel_rfl) rfl (fun _ _ _ h => h) (by exact op_load1 one_3 rfl (fun w hw => hw.gcell (hc1 0 _ rfl))) rfl hT (al_take (i := 5) rfl (by kernel_rfl) (by kernel_rfl) (by kernel_rfl) rfl (fun _ _ _ h => h) (op_move rfl) rfl (al_take (i := 6) rfl (by kernel_rfl) (by kernel_rfl) (by kernel_rfl) rfl (fun _ _ _ h => h) (op_move rfl) rfl (al_take (i := 7) rfl (by kernel_rfl) (by kernel_rfl) (by kernel_rfl) rfl (fun _ _ _ h => h) (op_indexN sl_29 rfl rfl (by omega) hob) rfl ?_)))))))
   refine al_take (i := 8) rfl (by kernel_rfl) (by kernel_rfl) (by kernel_rfl) rfl (fun _ _ _ h => h) (op_fieldAddr fld_46_0 rfl) rfl (al_load (i := 9) rfl (by kernel_rfl) (by kernel_rfl) (by kernel_rfl) rfl (fun _ _ _ h => h) (by exact op_load1 one_3 rfl (fun w hw => hw.gcell (hc2 0 _ rfl))) rfl hT (al_take (i := 10) rfl (by kernel_rfl) (by kernel_rfl) (by kernel_rfl) rfl (fun _ _ _ h => h) (op_neq rfl rfl) rfl (al_take (i := 11) rfl (by kernel_rfl) (by kernel_rfl) (by kernel_rfl) rfl (fun _ _ _ h => h) (op_move rfl) rfl ?_)))
   refine al_split (fun h28 => ?_) (fun h28 => ?_)
   ·
    try simp only [dqT, dqF, dq1, dq2, dq3, dq4, dq5] at h28
    refine al_gskip (i := 12) rfl (by kernel_rfl) (by kernel_rfl) (by kernel_rfl) rfl rfl rfl rfl (fun _ _ _ h => h) (fun _ => hT) (al_gskip (i := 13) rfl (by kernel_rfl) (by kernel_rfl) (by kernel_rfl) rfl rfl rfl rfl (fun _ _ _ h => h) (fun _ => hT) (al_gskip (i := 14) rfl (by kernel_rfl) (by kernel_rfl) (by kernel_rfl) rfl rfl rfl rfl (fun _ _ _ h => h) (fun _ => hT) (al_gskip (i := 15) rfl (by kernel_rfl) (by kernel_rfl) (by kernel_rfl) rfl rfl rfl rfl (fun _ _ _ h => h) (fun _ => hT) (al_gskip (i := 16) rfl (by kernel_rfl) (by kernel_rfl) (by kernel_rfl) rfl rfl rfl rfl (fun _ _ _ h => h) (fun _ => hT) (al_gskip (i := 17) rfl (by kernel_rfl) (by kernel_rfl) (by kernel_rfl) rfl rfl rfl rfl (fun _ _ _ h => h) (fun _ => hT) (al_gskip (i := 18) rfl (by kernel_rfl) (by kernel_rfl) (by kernel_rfl) rfl rfl rfl rfl (fun _ _ _ h => h) (fun _ => hT) (al_gskip (i := 19) rfl (by kernel_rfl) (by kernel_rfl) (by kernel_rfl) rfl rfl rfl rfl (fun _ _ _ h => h) (fun _ => hT) ?_)))))))
    refine al_gskip (i := 20) rfl (by kernel_rfl) (by kernel_rfl) (by kernel_rfl) rfl rfl rfl rfl (fun _ _ _ h => h) (fun _ => hT) (al_gskip (i := 21) rfl (by kernel_rfl) (by kernel_rfl) (by kernel_rfl) rfl rfl rfl rfl (fun _ _ _ h => h) (fun _ => hT) (al_gskip (i := 22) rfl (by kernel_rfl) (by kernel_rfl) (by kernel_rfl) rfl rfl rfl rfl (fun _ _ _ h => h) (fun _ => hT) (al_take (i := 23) rfl (by kernel_rfl) (by kernel_rfl) (by kernel_rfl) rfl (fun _ _ _ h => h) (op_pick_t rfl rfl) rfl (al_take (i := 24) rfl (by kernel_rfl) (by kernel_rfl) (by kernel_rfl) rfl (fun _ _ _ h => h) (op_move rfl) rfl (al_gskip (i := 25) rfl (by kernel_rfl) (by kernel_rfl) (by kernel_rfl) rfl rfl rfl rfl (fun _ _ _ h => h) (fun _ => hT) (al_gskip (i := 26) rfl (by kernel_rfl) (by kernel_rfl) (by kernel_rfl) rfl rfl rfl rfl (fun _ _ _ h => h) (fun _ => hT) (al_gskip (i := 27) rfl (by kernel_rfl) (by kernel_rfl) (by kernel_rfl) rfl rfl rfl rfl (fun _ _ _ h => h) (fun _ => hT) ?_)))))))
    refine al_gskip (i := 28) rfl (by kernel_rfl) (by kernel_rfl) (by kernel_rfl) rfl rfl rfl rfl (fun _ _ _ h => h) (fun _ => hT) (al_gskip (i := 29) rfl (by kernel_rfl) (by kernel_rfl) (by kernel_rfl) rfl rfl rfl rfl (fun _ _ _ h => h) (fun _ => hT) (al_gskip (i := 30) rfl (by kernel_rfl) (by kernel_rfl) (by kernel_rfl) rfl rfl rfl rfl (fun _ _ _ h => h) (fun _ => hT) (al_gskip (i := 31) rfl (by kernel_rfl) (by kernel_rfl) (by kernel_rfl) rfl rfl rfl rfl (fun _ _ _ h => h) (fun _ => hT) (al_gskip (i := 32) rfl (by kernel_rfl) (by kernel_rfl) (by kernel_rfl) rfl rfl rfl rfl (fun _ _ _ h => h) (fun _ => hT) (al_gskip (i := 33) rfl (by kernel_rfl) (by kernel_rfl) (by kernel_rfl) rfl rfl rfl rfl (fun _ _ _ h => h) (fun _ => hT) (al_gskip (i := 34) rfl (by kernel_rfl) (by kernel_rfl) (by kernel_rfl) rfl rfl rfl rfl (fun _ _ _ h => h) (fun _ => hT) (al_gskip (i := 35) rfl (by kernel_rfl) (by kernel_rfl) (by kernel_rfl) rfl rfl rfl rfl (fun _ _ _ h => h) (fun _ => hT) ?_)))))))
    refine al_gskip (i := 36) rfl (by kernel_rfl) (by kernel_rfl) (by kernel_rfl) rfl rfl rfl rfl (fun _ _ _ h => h) (fun _ => hT) (al_take (i := 37) rfl (by kernel_rfl) (by kernel_rfl) (by kernel_rfl) rfl (fun _ _ _ h => h) (op_pick_t rfl rfl) rfl (al_done (by kernel_rfl) (pq_then (cw_cond_t rfl (cw_seq (cw_region (ol_pure rfl (op_assign rfl) ?_)))))))
    refine ol_nil (pq_then (cw_ret (pq_in_ret (pq_ret (pq_ret (pq_in_ret (pq_ret ?_)))))))
    refine ret1 rfl rfl ?_
    first | exact hS.sc_b rfl | (exfalso; first | omega | simp_all)
   ·
    try simp only [dqT, dqF, dq1, dq2, dq3, dq4, dq5] at h28
    refine al_gtake (i := 12) rfl (by kernel_rfl) (by kernel_rfl) (by kernel_rfl) rfl rfl rfl (fun _ _ _ h => h) (op_move rfl) rfl (al_gtake (i := 13) rfl (by kernel_rfl) (by kernel_rfl) (by kernel_rfl) rfl rfl rfl (fun _ _ _ h => h) (op_move rfl) rfl (al_gtake (i := 14) rfl (by kernel_rfl) (by kernel_rfl) (by kernel_rfl) rfl rfl rfl (fun _ _ _ h => h) (op_indexN sl_29 rfl rfl (by omega) hoa) rfl (al_gtake (i := 15) rfl (by kernel_rfl) (by kernel_rfl) (by kernel_rfl) rfl rfl rfl (fun _ _ _ h => h) (op_fieldAddr fld_46_1 rfl) rfl (al_gload (i := 16) rfl (by kernel_rfl) (by kernel_rfl) (by kernel_rfl) rfl rfl rfl (fun _ _ _ h => h) (by exact op_load1 one_3 rfl (fun w hw => hw.gcell (hc1 1 _ rfl))) rfl hT (al_gtake (i := 17) rfl (by kernel_rfl) (by kernel_rfl) (by kernel_rfl) rfl rfl rfl (fun _ _ _ h => h) (op_move rfl) rfl (al_gtake (i := 18) rfl (by kernel_rfl) (by kernel_rfl) (by kernel_rfl) rfl rfl rfl (fun _ _ _ h => h) (op_move rfl) rfl (al_gtake (i := 19) rfl (by kernel_rfl) (by kernel_rfl) (by kernel_rfl) rfl rfl rfl (fun _ _ _ h => h) (op_indexN sl_29 rfl rfl (by omega) hob) rfl ?_)))))))
    refine al_gtake (i := 20) rfl (by kernel_rfl) (by kernel_rfl) (by kernel_rfl) rfl rfl rfl (fun _ _ _ h => h) (op_fieldAddr fld_46_1 rfl) rfl (al_gload (i := 21) rfl (by kernel_rfl) (by kernel_rfl) (by kernel_rfl) rfl rfl rfl (fun _ _ _ h => h) (by exact op_load1 one_3 rfl (fun w hw => hw.gcell (hc2 1 _ rfl))) rfl hT (al_gtake (i := 22) rfl (by kernel_rfl) (by kernel_rfl) (by kernel_rfl) rfl rfl rfl (fun _ _ _ h => h) (op_neq rfl rfl) rfl (al_take (i := 23) rfl (by kernel_rfl) (by kernel_rfl) (by kernel_rfl) rfl (fun _ _ _ h => h) (op_pick_f rfl rfl) rfl (al_take (i := 24) rfl (by kernel_rfl) (by kernel_rfl) (by kernel_rfl) rfl (fun _ _ _ h => h) (op_move rfl) rfl ?_))))
    refine al_split (fun h41 => ?_) (fun h41 => ?_)
    ·
     try simp only [dqT, dqF, dq1, dq2, dq3, dq4, dq5] at h41
     refine al_gskip (i := 25) rfl (by kernel_rfl) (by kernel_rfl) (by kernel_rfl) rfl rfl rfl rfl (fun _ _ _ h => h) (fun _ => hT) (al_gskip (i := 26) rfl (by kernel_rfl) (by kernel_rfl) (by kernel_rfl) rfl rfl rfl rfl (fun _ _ _ h => h) (fun _ => hT) (al_gskip (i := 27) rfl (by kernel_rfl) (by kernel_rfl) (by kernel_rfl) rfl rfl rfl rfl (fun _ _ _ h => h) (fun _ => hT) (al_gskip (i := 28) rfl (by kernel_rfl) (by kernel_rfl) (by kernel_rfl) rfl rfl rfl rfl (fun _ _ _ h => h) (fun _ => hT) (al_gskip (i := 29) rfl (by kernel_rfl) (by kernel_rfl) (by kernel_rfl) rfl rfl rfl rfl (fun _ _ _ h => h) (fun _ => hT) (al_gskip (i := 30) rfl (by kernel_rfl) (by kernel_rfl) (by kernel_rfl) rfl rfl rfl rfl (fun _ _ _ h => h) (fun _ => hT) (al_gskip (i := 31) rfl (by kernel_rfl) (by kernel_rfl) (by kernel_rfl) rfl rfl rfl rfl (fun _ _ _ h => h) (fun _ => hT) (al_gskip (i := 32) rfl (by kernel_rfl) (by kernel_rfl) (by kernel_rfl) rfl rfl rfl rfl (fun _ _ _ h => h) (fun _ => hT) ?_)))))))
     refine al_gskip (i := 33) rfl (by kernel_rfl) (by kernel_rfl) (by kernel_rfl) rfl rfl rfl rfl (fun _ _ _ h => h) (fun _ => hT) (al_gskip (i := 34) rfl (by kernel_rfl) (by kernel_rfl) (by kernel_rfl) rfl rfl rfl rfl (fun _ _ _ h => h) (fun _ => hT) (al_gskip (i := 35) rfl (by kernel_rfl) (by kernel_rfl) (by kernel_rfl) rfl rfl rfl rfl (fun _ _ _ h => h) (fun _ => hT) (al_gskip (i := 36) rfl (by kernel_rfl) (by kernel_rfl) (by kernel_rfl) rfl rfl rfl rfl (fun _ _ _ h => h) (fun _ => hT) (al_take (i := 37) rfl (by kernel_rfl) (by kernel_rfl) (by kernel_rfl) rfl (fun _ _ _ h => h) (op_pick_t rfl rfl) rfl (al_done (by kernel_rfl) (pq_then (cw_cond_t rfl ?_)))))))
     refine cw_seq (cw_region (ol_pure rfl (op_assign rfl) (ol_nil (pq_then (cw_ret (pq_in_ret (pq_ret ?_)))))))
     refine pq_ret (pq_in_ret (pq_ret (ret1 rfl rfl ?_)))
     first | exact hS.sc_b rfl | (exfalso; first | omega | simp_all)
    ·
     try simp only [dqT, dqF, dq1, dq2, dq3, dq4, dq5] at h41
     refine al_gtake (i := 25) rfl (by kernel_rfl) (by kernel_rfl) (by kernel_rfl) rfl rfl rfl (fun _ _ _ h => h) (op_move rfl) rfl (al_gtake (i := 26) rfl (by kernel_rfl) (by kernel_rfl) (by kernel_rfl) rfl rfl rfl (fun _ _ _ h => h) (op_move rfl) rfl (al_gtake (i := 27) rfl (by kernel_rfl) (by kernel_rfl) (by kernel_rfl) rfl rfl rfl (fun _ _ _ h => h) (op_indexN sl_29 rfl rfl (by omega) hoa) rfl (al_gtake (i := 28) rfl (by kernel_rfl) (by kernel_rfl) (by kernel_rfl) rfl rfl rfl (fun _ _ _ h => h) (op_fieldAddr fld_46_2 rfl) rfl (al_gload (i := 29) rfl (by kernel_rfl) (by kernel_rfl) (by kernel_rfl) rfl rfl rfl (fun _ _ _ h => h) (by exact op_load1 one_26 rfl (fun w hw => hw.gcell (hc1 2 _ rfl))) rfl hT (al_gtake (i := 30) rfl (by kernel_rfl) (by kernel_rfl) (by kernel_rfl) rfl rfl rfl (fun _ _ _ h => h) (op_move rfl) rfl (al_gtake (i := 31) rfl (by kernel_rfl) (by kernel_rfl) (by kernel_rfl) rfl rfl rfl (fun _ _ _ h => h) (op_move rfl) rfl (al_gtake (i := 32) rfl (by kernel_rfl) (by kernel_rfl) (by kernel_rfl) rfl rfl rfl (fun _ _ _ h => h) (op_indexN sl_29 rfl rfl (by omega) hob) rfl ?_)))))))
     refine al_gtake (i := 33) rfl (by kernel_rfl) (by kernel_rfl) (by kernel_rfl) rfl rfl rfl (fun _ _ _ h => h) (op_fieldAddr fld_46_2 rfl) rfl (al_gload (i := 34) rfl (by kernel_rfl) (by kernel_rfl) (by kernel_rfl) rfl rfl rfl (fun _ _ _ h => h) (by exact op_load1 one_26 rfl (fun w hw => hw.gcell (hc2 2 _ rfl))) rfl hT ?_)
     refine al_gstep (i := 35) rfl (by kernel_rfl) rfl rfl rfl (op_call_sc hS cf_19 rfl (R08_Ints_c _ _ hS.hold _ _ a[k].roots a[k].roots hr1 hr2)) ?_
     clear hS
     rintro _ w ⟨rfl, hS⟩
     have hT := hT.back hS (by first | exact Le.refl _ | assumption) (fun x hx => by simp at hx)
     refine ⟨fun _ _ => hT, ?_⟩
     refine al_gtake (i := 36) rfl (by kernel_rfl) (by kernel_rfl) (by kernel_rfl) rfl rfl rfl (fun _ _ _ h => h) (op_not rfl) rfl (al_take (i := 37) rfl (by kernel_rfl) (by kernel_rfl) (by kernel_rfl) rfl (fun _ _ _ h => h) (op_pick_f rfl rfl) rfl (al_done (by kernel_rfl) (pq_then ?_)))
     refine cw_cond rfl (fun h54 => ?_) (fun h54 => ?_)
     ·
      try simp only [dqT, dqF, dq1, dq2, dq3, dq4, dq5] at h54
      refine cw_seq (cw_region (ol_pure rfl (op_assign rfl) (ol_nil (pq_then (cw_ret (pq_in_ret (pq_ret ?_)))))))
      refine pq_ret (pq_in_ret (pq_ret (ret1 rfl rfl ?_)))
      first | exact hS.sc_b rfl | (exfalso; first | omega | simp_all)
     ·
      try simp only [dqT, dqF, dq1, dq2, dq3, dq4, dq5] at h54
      refine cw_skip (pq_in_normal (pq_then (cw_region (ol_pure rfl (op_move rfl) (ol_pure rfl (op_add rfl rfl (by omega) (by omega)) (ol_pure rfl (op_assign rfl) (ol_nil ?_)))))))
      refine pq_loop _ _ (by exact ⟨k + 1, rfl, by omega, rfl, hS⟩) ((Sub.cons rfl (Sub.cons rfl (Sub.cons rfl Sub.nil)))) (by omega)
  ·
   try simp only [dqT, dqF, dq1, dq2, dq3, dq4, dq5] at h14
   refine cw_exit (pq_exit (pq_exit (pq_in_exit (pq_then (cw_seq (cw_region (ol_pure rfl (op_assign rfl) ?_)))))))
   refine ol_nil (pq_then (cw_ret (ret1 rfl rfl ?_)))
   first | exact hS.sc_b rfl | (exfalso; first | omega | simp_all)
set_option maxRecDepth 100000 in
set_option maxHeartbeats 2000000 in

theorem R08_slot_c (G : GH) (w0 : World) (hG : Holds G w0) (hv : Value) (cs : List Cell) (tr : List Int) (room : Int) (hh : EHeap G hv cs tr room) (p : Nat) (hp : p < cs.length) (hsl : SlotR cs p cs[p]) :
   Calls Try.prog 46 #[hv, .int .i64 (p : Nat)] w0 (Sc w0 (.bool true)) := by
 have hh0 := hh
 obtain ⟨oc, cc, ot, ct, rfl, h1, h2⟩ := hh
 have hle := h1.le
 have hle2 := h2.le
 obtain ⟨hoa, hbd, hcells⟩ := h1.cellAt hp
 unfold SlotR at hsl
 have hnil : ∀ s : ByteArray, s.toList = [] → (s.toList == ByteArray.toList ⟨#[]⟩) = true := fun s hs => by rw [hs]; decide +kernel
 refine enter Try.func46 rfl (N := 104) rfl (Nat.le_of_ble_eq_true rfl) ?_
 have hS := SS.init hG
 refine cw_seq (cw_region ?_)
 refine ol_step rfl (op_box hS rfl rfl) ?_
 clear hS
 rintro _ w ⟨b2, rfl, hS⟩
 refine ol_pure rfl (op_assign rfl) (ol_nil (pq_then (cw_seq (cw_region (ol_pure rfl (op_fieldAddr fld_28_0 rfl) (ol_load rfl (op_load1 one_25 rfl (fun w hw => (hw.bcell (i := 0) rfl).trans rfl)) hS (ol_pure rfl (op_move rfl) ?_)))))))
 refine ol_pure rfl (op_indexN sl_25 rfl rfl (by omega) hoa) (ol_load rfl (op_loadN agg_49 rfl (by rfl) (fun w hw k u hk => hw.gcell (hcells k u hk))) hS ?_)
 refine ol_step rfl (op_alloc hS el_49 rfl) ?_
 clear hS
 rintro _ w ⟨b5, rfl, hS⟩
 refine ol_step0  (op_storeN (j := 0) hS sz_49 rfl rfl rfl rfl rfl (by simp [Value.oneCell'])) ?_
 clear hS
 rintro _ w hS; (try simp only [List.nil_append, List.cons_append, List.set] at hS)
 refine ol_nil (pq_then (cw_seq (cw_seq (cw_region (ol_pure rfl (op_fieldAddr fld_49_0 rfl) (ol_load rfl (op_load1 one_3 rfl (fun w hw => (hw.bcell (i := 0) rfl).trans rfl)) hS (ol_nil ?_)))))))
 refine pq_then (cw_block (cw_seq (cw_region (ol_pure rfl (op_eql rfl rfl) (ol_pure rfl (op_assign rfl) (ol_nil (pq_then ?_)))))))
 refine cw_cond rfl (fun h14 => ?_) (fun h14 => ?_)
 ·
  try simp only [dqT, dqF, dq1, dq2, dq3, dq4, dq5] at h14
  have hA : cs[p].name.toList = [] ∧ 0 ≤ cs[p].n ∧ cs[p].n < cs.length := by rcases hsl with h | h | h | h <;> first | exact ⟨h.2.1, h.2.2.1, h.2.2.2⟩ | (exfalso; omega)
  refine cw_seq (cw_region (ol_pure rfl (op_fieldAddr fld_49_1 rfl) (ol_load rfl (op_load1 one_9 rfl (fun w hw => (hw.bcell (i := 0) rfl).trans rfl)) hS (ol_pure rfl (op_eqlS rfl rfl) (ol_pure rfl (op_move rfl) ?_)))))
  refine ol_split (fun h19 => ?_) (fun h19 => ?_)
  ·
   try simp only [dqT, dqF, dq1, dq2, dq3, dq4, dq5] at h19
   refine ol_guard_load rfl rfl rfl (op_loadN agg_28 rfl (by rfl) (fun w hw k u hk => (hw.bcell (i := 1) rfl).trans hk)) hS (ol_guard_pure rfl rfl rfl (op_fieldAddr fld_49_2 rfl) (ol_guard_load rfl rfl rfl (op_load1 one_3 rfl (fun w hw => (hw.bcell (i := 0) rfl).trans rfl)) hS ?_))
   refine ol_guard_step rfl rfl rfl (op_call_sc hS cf_35 rfl (R08_Is_c _ _ hS.hold _ cs tr room hh0 cs[p].n)) ?_
   clear hS
   rintro _ w ⟨rfl, hS⟩
   refine ol_pure rfl (op_pick_t rfl rfl) (ol_pure rfl (op_assign rfl) (ol_nil (pq_then (cw_ret (pq_in_ret (pq_ret (ret1 rfl rfl ?_)))))))
   exact hS.sc_b (isP_iff.2 hA.2)
  ·
   try simp only [dqT, dqF, dq1, dq2, dq3, dq4, dq5] at h19
   refine ol_guard_no rfl rfl rfl rfl (ol_guard_no rfl rfl rfl rfl (ol_guard_no rfl rfl rfl rfl (ol_guard_no rfl rfl rfl rfl (ol_pure rfl (op_pick_f rfl rfl) (ol_pure rfl (op_assign rfl) (ol_nil (pq_then ?_)))))))
   refine cw_ret (pq_in_ret (pq_ret (ret1 rfl rfl ?_)))
   rw [hnil _ hA.1] at h19
   cases h19
 ·
  try simp only [dqT, dqF, dq1, dq2, dq3, dq4, dq5] at h14
  refine cw_seq (cw_region (ol_pure rfl (op_eql rfl rfl) (ol_pure rfl (op_assign rfl) (ol_nil (pq_then ?_)))))
  refine cw_cond rfl (fun h25 => ?_) (fun h25 => ?_)
  ·
   try simp only [dqT, dqF, dq1, dq2, dq3, dq4, dq5] at h25
   have hA : cs[p].name.toList = [] ∧ -2147483647 ≤ cs[p].n ∧ cs[p].n ≤ 2147483647 := by rcases hsl with h | h | h | h <;> first | exact ⟨h.2.1, h.2.2.1, h.2.2.2⟩ | (exfalso; omega)
   refine cw_seq (cw_region (ol_pure rfl (op_fieldAddr fld_49_1 rfl) (ol_load rfl (op_load1 one_9 rfl (fun w hw => (hw.bcell (i := 0) rfl).trans rfl)) hS (ol_pure rfl (op_eqlS rfl rfl) (ol_pure rfl (op_move rfl) ?_)))))
   refine ol_split (fun h30 => ?_) (fun h30 => ?_)
   ·
    try simp only [dqT, dqF, dq1, dq2, dq3, dq4, dq5] at h30
    refine ol_guard_pure rfl rfl rfl (op_fieldAddr fld_49_2 rfl) (ol_guard_load rfl rfl rfl (op_load1 one_3 rfl (fun w hw => (hw.bcell (i := 0) rfl).trans rfl)) hS (ol_guard_pure rfl rfl rfl (op_geq rfl rfl) (ol_pure rfl (op_pick_t rfl rfl) (ol_pure rfl (op_move rfl) ?_))))
    refine ol_split (fun h35 => ?_) (fun h35 => ?_)
    ·
     try simp only [dqT, dqF, dq1, dq2, dq3, dq4, dq5] at h35
     refine ol_guard_pure rfl rfl rfl (op_fieldAddr fld_49_2 rfl) (ol_guard_load rfl rfl rfl (op_load1 one_3 rfl (fun w hw => (hw.bcell (i := 0) rfl).trans rfl)) hS (ol_guard_pure rfl rfl rfl (op_leq rfl rfl) (ol_pure rfl (op_pick_t rfl rfl) (ol_pure rfl (op_assign rfl) (ol_nil (pq_then (cw_ret ?_)))))))
     refine pq_in_ret (pq_ret (ret1 rfl rfl ?_))
     exact hS.sc_b (decide_eq_true hA.2.2)
    ·
     try simp only [dqT, dqF, dq1, dq2, dq3, dq4, dq5] at h35
     refine ol_guard_no rfl rfl rfl rfl (ol_guard_no rfl rfl rfl rfl (ol_guard_no rfl rfl rfl rfl (ol_pure rfl (op_pick_f rfl rfl) (ol_pure rfl (op_assign rfl) (ol_nil (pq_then (cw_ret ?_)))))))
     refine pq_in_ret (pq_ret (ret1 rfl rfl ?_))
     exfalso
     have := hA.2.1
     omega
   ·
    try simp only [dqT, dqF, dq1, dq2, dq3, dq4, dq5] at h30
    refine ol_guard_no rfl rfl rfl rfl (ol_guard_no rfl rfl rfl rfl (ol_guard_no rfl rfl rfl rfl (ol_pure rfl (op_pick_f rfl rfl) (ol_pure rfl (op_move rfl) (ol_guard_no rfl rfl rfl rfl (ol_guard_no rfl rfl rfl rfl (ol_guard_no rfl rfl rfl rfl ?_)))))))
    refine ol_pure rfl (op_pick_f rfl rfl) (ol_pure rfl (op_assign rfl) (ol_nil (pq_then (cw_ret (pq_in_ret (pq_ret (ret1 rfl rfl ?_)))))))
    rw [hnil _ hA.1] at h30
    cases h30
  ·
   try simp only [dqT, dqF, dq1, dq2, dq3, dq4, dq5] at h25
   refine cw_seq (cw_region (ol_pure rfl (op_eql rfl rfl) (ol_pure rfl (op_assign rfl) (ol_nil (pq_then ?_)))))
   refine cw_cond rfl (fun h40 => ?_) (fun h40 => ?_)
   ·
    try simp only [dqT, dqF, dq1, dq2, dq3, dq4, dq5] at h40
    have hA : cs[p].name.toList = [] ∧ (0 ≤ cs[p].n ∧ cs[p].n < cs.length) ∧ kindAt cs cs[p].n = 4 := by rcases hsl with h | h | h | h <;> first | exact ⟨h.2.1, ⟨h.2.2.1, h.2.2.2.1⟩, h.2.2.2.2⟩ | (exfalso; omega)
    refine cw_seq (cw_region (ol_pure rfl (op_fieldAddr fld_49_1 rfl) (ol_load rfl (op_load1 one_9 rfl (fun w hw => (hw.bcell (i := 0) rfl).trans rfl)) hS (ol_pure rfl (op_eqlS rfl rfl) (ol_pure rfl (op_move rfl) ?_)))))
    refine ol_split (fun h45 => ?_) (fun h45 => ?_)
    ·
     try simp only [dqT, dqF, dq1, dq2, dq3, dq4, dq5] at h45
     refine ol_guard_load rfl rfl rfl (op_loadN agg_28 rfl (by rfl) (fun w hw k u hk => (hw.bcell (i := 1) rfl).trans hk)) hS (ol_guard_pure rfl rfl rfl (op_fieldAddr fld_49_2 rfl) (ol_guard_load rfl rfl rfl (op_load1 one_3 rfl (fun w hw => (hw.bcell (i := 0) rfl).trans rfl)) hS ?_))
     refine ol_guard_step rfl rfl rfl (op_call_sc hS cf_35 rfl (R08_Is_c _ _ hS.hold _ cs tr room hh0 cs[p].n)) ?_
     clear hS
     rintro _ w ⟨rfl, hS⟩
     refine ol_pure rfl (op_pick_t rfl rfl) (ol_pure rfl (op_move rfl) ?_)
     refine ol_split (fun h51 => ?_) (fun h51 => ?_)
     ·
      try simp only [dqT, dqF, dq1, dq2, dq3, dq4, dq5] at h51
      have hA3 := hA.2.2
      obtain ⟨q, hq⟩ := Int.eq_ofNat_of_zero_le (a := cs[p].n) hA.2.1.1
      have hql : q < cs.length := by have := hA.2.1.2; omega
      rw [hq] at hA3
      obtain ⟨hoq, hbq, hcq⟩ := h1.cellAt hql
      have hkq := kindAt_at hql
      refine ol_guard_pure rfl rfl rfl (op_fieldAddr fld_28_0 rfl) (ol_guard_load rfl rfl rfl (op_load1 one_25 rfl (fun w hw => (hw.bcell (i := 1) rfl).trans rfl)) hS (ol_guard_pure rfl rfl rfl (op_fieldAddr fld_49_2 rfl) (ol_guard_load rfl rfl rfl (op_load1 one_3 rfl (fun w hw => (hw.bcell (i := 0) rfl).trans rfl)) hS (ol_guard_pure rfl rfl rfl (op_indexAddr (i := cs[p].n) (n := cs.length) sl_25 rfl rfl (by omega) (by omega) hoq) (ol_guard_pure rfl rfl rfl (op_fieldAddr fld_49_0 rfl) (ol_guard_load rfl rfl rfl (op_load1 (v := .int .i64 cs[q].kind) one_3 rfl (fun w hw => hw.gcell (by rw [hq]; exact hcq 0 _ rfl))) hS (ol_guard_pure rfl rfl rfl (op_eql rfl rfl) ?_)))))))
      refine ol_pure rfl (op_pick_t rfl rfl) (ol_pure rfl (op_assign rfl) (ol_nil (pq_then (cw_ret (pq_in_ret (pq_ret (ret1 rfl rfl ?_)))))))
      exact hS.sc_b (decide_eq_true (by omega))
     ·
      try simp only [dqT, dqF, dq1, dq2, dq3, dq4, dq5] at h51
      refine ol_guard_no rfl rfl rfl rfl (ol_guard_no rfl rfl rfl rfl (ol_guard_no rfl rfl rfl rfl (ol_guard_no rfl rfl rfl rfl (ol_guard_no rfl rfl rfl rfl (ol_guard_no rfl rfl rfl rfl (ol_guard_no rfl rfl rfl rfl (ol_guard_no rfl rfl rfl rfl ?_)))))))
      refine ol_pure rfl (op_pick_f rfl rfl) (ol_pure rfl (op_assign rfl) (ol_nil (pq_then (cw_ret (pq_in_ret (pq_ret (ret1 rfl rfl ?_)))))))
      rw [isP_iff.2 hA.2.1] at h51
      cases h51
    ·
     try simp only [dqT, dqF, dq1, dq2, dq3, dq4, dq5] at h45
     refine ol_guard_no rfl rfl rfl rfl (ol_guard_no rfl rfl rfl rfl (ol_guard_no rfl rfl rfl rfl (ol_guard_no rfl rfl rfl rfl (ol_pure rfl (op_pick_f rfl rfl) (ol_pure rfl (op_move rfl) (ol_guard_no rfl rfl rfl rfl (ol_guard_no rfl rfl rfl rfl ?_)))))))
     refine ol_guard_no rfl rfl rfl rfl (ol_guard_no rfl rfl rfl rfl (ol_guard_no rfl rfl rfl rfl (ol_guard_no rfl rfl rfl rfl (ol_guard_no rfl rfl rfl rfl (ol_guard_no rfl rfl rfl rfl (ol_pure rfl (op_pick_f rfl rfl) (ol_pure rfl (op_assign rfl) ?_)))))))
     refine ol_nil (pq_then (cw_ret (pq_in_ret (pq_ret (ret1 rfl rfl ?_)))))
     rw [hnil _ hA.1] at h45
     cases h45
   ·
    try simp only [dqT, dqF, dq1, dq2, dq3, dq4, dq5] at h40
    refine cw_seq (cw_region (ol_pure rfl (op_eql rfl rfl) (ol_pure rfl (op_assign rfl) (ol_nil (pq_then ?_)))))
    refine cw_cond rfl (fun h61 => ?_) (fun h61 => ?_)
    ·
     try simp only [dqT, dqF, dq1, dq2, dq3, dq4, dq5] at h61
     have hA : 0 ≤ cs[p].n ∧ cs[p].n ≤ 6 ∧ (p : Int) + cs[p].n < cs.length ∧ nameB cs[p].name = true ∧ ∀ i : Nat, 1 ≤ i → (i : Int) ≤ cs[p].n → kindAt cs ((p : Int) + i) ≠ 4 := by rcases hsl with h | h | h | h <;> first | exact h.2 | (exfalso; omega)
     refine cw_seq (cw_seq (cw_region (ol_pure rfl (op_fieldAddr fld_49_2 rfl) (ol_load rfl (op_load1 one_3 rfl (fun w hw => (hw.bcell (i := 0) rfl).trans rfl)) hS (ol_pure rfl (op_lss rfl rfl) (ol_pure rfl (op_move rfl) ?_))))))
     refine ol_split (fun h66 => ?_) (fun h66 => ?_)
     ·
      try simp only [dqT, dqF, dq1, dq2, dq3, dq4, dq5] at h66
      refine ol_guard_no rfl rfl rfl rfl (ol_guard_no rfl rfl rfl rfl (ol_guard_no rfl rfl rfl rfl (ol_pure rfl (op_pick_t rfl rfl) (ol_pure rfl (op_move rfl) (ol_guard_no rfl rfl rfl rfl (ol_guard_no rfl rfl rfl rfl (ol_guard_no rfl rfl rfl rfl ?_)))))))
      refine ol_guard_no rfl rfl rfl rfl (ol_guard_no rfl rfl rfl rfl (ol_guard_no rfl rfl rfl rfl (ol_guard_no rfl rfl rfl rfl (ol_guard_no rfl rfl rfl rfl (ol_pure rfl (op_pick_t rfl rfl) (ol_pure rfl (op_move rfl) (ol_guard_no rfl rfl rfl rfl ?_)))))))
      refine ol_guard_no rfl rfl rfl rfl (ol_guard_no rfl rfl rfl rfl (ol_guard_no rfl rfl rfl rfl (ol_guard_no rfl rfl rfl rfl (ol_guard_no rfl rfl rfl rfl (ol_pure rfl (op_pick_t rfl rfl) (ol_nil (pq_then ?_)))))))
      refine cw_cond_t rfl (cw_seq (cw_region (ol_pure rfl (op_assign rfl) (ol_nil (pq_then (cw_ret (pq_ret ?_)))))))
      refine pq_in_ret (pq_ret (ret1 rfl rfl ?_))
      exfalso
      have := hA.1
      omega
     ·
      try simp only [dqT, dqF, dq1, dq2, dq3, dq4, dq5] at h66
      refine ol_guard_pure rfl rfl rfl (op_fieldAddr fld_49_2 rfl) (ol_guard_load rfl rfl rfl (op_load1 one_3 rfl (fun w hw => (hw.bcell (i := 0) rfl).trans rfl)) hS (ol_guard_pure rfl rfl rfl (op_gtr rfl rfl) (ol_pure rfl (op_pick_f rfl rfl) (ol_pure rfl (op_move rfl) ?_))))
      refine ol_split (fun h71 => ?_) (fun h71 => ?_)
      ·
       try simp only [dqT, dqF, dq1, dq2, dq3, dq4, dq5] at h71
       refine ol_guard_no rfl rfl rfl rfl (ol_guard_no rfl rfl rfl rfl (ol_guard_no rfl rfl rfl rfl (ol_guard_no rfl rfl rfl rfl (ol_guard_no rfl rfl rfl rfl (ol_guard_no rfl rfl rfl rfl (ol_guard_no rfl rfl rfl rfl (ol_guard_no rfl rfl rfl rfl ?_)))))))
       refine ol_pure rfl (op_pick_t rfl rfl) (ol_pure rfl (op_move rfl) (ol_guard_no rfl rfl rfl rfl (ol_guard_no rfl rfl rfl rfl (ol_guard_no rfl rfl rfl rfl (ol_guard_no rfl rfl rfl rfl (ol_guard_no rfl rfl rfl rfl (ol_guard_no rfl rfl rfl rfl ?_)))))))
       refine ol_pure rfl (op_pick_t rfl rfl) (ol_nil (pq_then (cw_cond_t rfl (cw_seq (cw_region (ol_pure rfl (op_assign rfl) (ol_nil ?_)))))))
       refine pq_then (cw_ret (pq_ret (pq_in_ret (pq_ret (ret1 rfl rfl ?_)))))
       exfalso
       have := hA.2.1
       omega
      ·
       try simp only [dqT, dqF, dq1, dq2, dq3, dq4, dq5] at h71
       refine ol_guard_pure rfl rfl rfl (op_move rfl) (ol_guard_pure rfl rfl rfl (op_fieldAddr fld_49_2 rfl) (ol_guard_load rfl rfl rfl (op_load1 one_3 rfl (fun w hw => (hw.bcell (i := 0) rfl).trans rfl)) hS (ol_guard_pure rfl rfl rfl (op_add rfl rfl (by omega) (by omega)) (ol_guard_pure rfl rfl rfl (op_fieldAddr fld_28_0 rfl) (ol_guard_load rfl rfl rfl (op_load1 one_25 rfl (fun w hw => (hw.bcell (i := 1) rfl).trans rfl)) hS (ol_guard_pure rfl rfl rfl (op_len sl_25 rfl rfl) (ol_guard_pure rfl rfl rfl (op_geq rfl rfl) ?_)))))))
       refine ol_pure rfl (op_pick_f rfl rfl) (ol_pure rfl (op_move rfl) ?_)
       refine ol_split (fun h81 => ?_) (fun h81 => ?_)
       ·
        try simp only [dqT, dqF, dq1, dq2, dq3, dq4, dq5] at h81
        refine ol_guard_no rfl rfl rfl rfl (ol_guard_no rfl rfl rfl rfl (ol_guard_no rfl rfl rfl rfl (ol_guard_no rfl rfl rfl rfl (ol_guard_no rfl rfl rfl rfl (ol_guard_no rfl rfl rfl rfl (ol_pure rfl (op_pick_t rfl rfl) (ol_nil ?_)))))))
        refine pq_then (cw_cond_t rfl (cw_seq (cw_region (ol_pure rfl (op_assign rfl) (ol_nil (pq_then (cw_ret ?_)))))))
        refine pq_ret (pq_in_ret (pq_ret (ret1 rfl rfl ?_)))
        exfalso
        have := hA.2.2.1
        omega
       ·
        try simp only [dqT, dqF, dq1, dq2, dq3, dq4, dq5] at h81
        refine ol_guard_pure rfl rfl rfl (op_fieldAddr fld_49_1 rfl) (ol_guard_load rfl rfl rfl (op_load1 one_9 rfl (fun w hw => (hw.bcell (i := 0) rfl).trans rfl)) hS (ol_guard_pure rfl rfl rfl (op_build (is := [0, 1]) (xs := [.const (.int .i64 (3)), .tmp 83]) (v := .agg #[.int .i64 3, .string cs[p].name, .int .i64 0]) rfl rfl (fun w => by kernel_rfl)) ?_))
        refine ol_guard_step rfl rfl rfl (op_buildSlice (el := 58) (is := [0]) (xs := [.tmp 84]) (sz := 3) (cs := [.int .i64 3, .string cs[p].name, .int .i64 0]) hS rfl rfl (fun w => by kernel_rfl) rfl (by decide)) ?_
        clear hS
        rintro _ w ⟨s85, rfl, hS⟩
        have hlend := SS.lend (zs := [(⟨3, cs[p].name, 0⟩ : Cell)]) [] hS (by decide) ECell.mono ((Rows.nil (sz := 3) (E := ECell) _).snoc (x := ⟨3, cs[p].name, 0⟩) (cs := [.int .i64 3, .string cs[p].name, .int .i64 0]) rfl ⟨rfl, ⟨by show (-9223372036854775808 : Int) ≤ 3; decide, by show (3 : Int) ≤ 9223372036854775807; decide⟩, ⟨by show (-9223372036854775808 : Int) ≤ 0; decide, by show (0 : Int) ≤ 9223372036854775807; decide⟩, hbd.2.2⟩) rfl
        have hrt : nameB cs[p].name = true → rightT [(⟨3, cs[p].name, 0⟩ : Cell)] = true := fun h => by
          simp [rightT, endI, cellB, stepE, h]
        refine ol_guard_step rfl rfl rfl (op_call_sc hS cf_61 rfl (R01_Right_c (fullG _) _ (Holds.full _) _ [(⟨3, cs[p].name, 0⟩ : Cell)] hlend)) ?_
        clear hS
        rintro _ w ⟨rfl, hS⟩
        replace hS := SS.drop [] hS
        simp only [List.nil_append] at hS
        refine ol_guard_pure rfl rfl rfl (op_not rfl) (ol_pure rfl (op_pick_f rfl rfl) (ol_nil (pq_then ?_)))
        refine cw_cond rfl (fun h88 => ?_) (fun h88 => ?_)
        ·
         try simp only [dqT, dqF, dq1, dq2, dq3, dq4, dq5] at h88
         refine cw_seq (cw_region (ol_pure rfl (op_assign rfl) (ol_nil (pq_then (cw_ret (pq_ret (pq_in_ret ?_)))))))
         refine pq_ret (ret1 rfl rfl ?_)
         rw [hrt hA.2.2.2.1] at h88
         cases h88
        ·
         try simp only [dqT, dqF, dq1, dq2, dq3, dq4, dq5] at h88
         refine cw_skip (pq_then (cw_seq (cw_seq (cw_region (ol_pure rfl (op_assign rfl) (ol_nil (pq_then ?_)))))))
         refine cw_block ?_
         refine cw_loop (fun e w n => ∃ i : Nat, e = [(1, .int .i64 (p : Nat)), (2, .pointer (some ⟨b2, 0, none⟩)), (5, .pointer (some ⟨b5, 0, none⟩)), (6, .int .i64 (i : Nat))] ∧ 1 ≤ i ∧ (i : Int) ≤ cs[p].n + 1 ∧ n = (cs[p].n + 1).toNat - i ∧ SS G w0 G [.blk b5 49 [.int .i64 cs[p].kind, .string cs[p].name, .int .i64 cs[p].n], .blk b2 28 [.slice oc cs.length cc, .slice ot tr.length ct, .int .i64 room]] w) _ _ (by exact ⟨1, rfl, Nat.le_refl _, by omega, rfl, hS⟩) ((Sub.cons rfl (Sub.cons rfl (Sub.cons rfl (Sub.cons rfl Sub.nil))))) ?_
         clear hS
         rintro e w n ⟨i, rfl, hi1, hi2, rfl, hS⟩
         refine cw_seq (cw_seq (cw_region (ol_pure rfl (op_move rfl) (ol_pure rfl (op_fieldAddr fld_49_2 rfl) (ol_load rfl (op_load1 one_3 rfl (fun w hw => (hw.bcell (i := 0) rfl).trans rfl)) hS (ol_pure rfl (op_leq rfl rfl) (ol_nil ?_)))))))
         refine pq_then ?_
         refine cw_cond rfl (fun h92 => ?_) (fun h92 => ?_)
         ·
          try simp only [dqT, dqF, dq1, dq2, dq3, dq4, dq5] at h92
          have hil : p + i < cs.length := by omega
          obtain ⟨hoi, hbi, hci⟩ := h1.cellAt hil
          have hki := kindAt_at hil
          refine cw_skip (pq_then (cw_seq (cw_block (cw_seq (cw_region (ol_pure rfl (op_fieldAddr fld_28_0 rfl) (ol_load rfl (op_load1 one_25 rfl (fun w hw => (hw.bcell (i := 1) rfl).trans rfl)) hS ?_)))))))
          refine ol_pure rfl (op_move rfl) (ol_pure rfl (op_move rfl) (ol_pure rfl (op_add rfl rfl (by omega) (by omega)) (ol_pure rfl (op_indexAddr (i := (p : Int) + (i : Nat)) (n := cs.length) sl_25 rfl rfl (by omega) (by omega) hoi) (ol_pure rfl (op_fieldAddr fld_49_0 rfl) (ol_load rfl (op_load1 (v := .int .i64 cs[p + i].kind) one_3 rfl (fun w hw => hw.gcell (by rw [show ((p : Int) + (i : Nat)).toNat = p + i from by omega]; exact hci 0 _ rfl))) hS (ol_pure rfl (op_eql rfl rfl) (ol_nil ?_)))))))
          refine pq_then ?_
          refine cw_cond rfl (fun h103 => ?_) (fun h103 => ?_)
          ·
           try simp only [dqT, dqF, dq1, dq2, dq3, dq4, dq5] at h103
           refine cw_seq (cw_region (ol_pure rfl (op_assign rfl) (ol_nil (pq_then (cw_ret (pq_in_ret (pq_ret ?_)))))))
           refine pq_ret (pq_in_ret (pq_ret (pq_in_ret (pq_ret (ret1 rfl rfl ?_)))))
           exfalso
           have h9 := hA.2.2.2.2 i hi1 (by omega)
           rw [show (p : Int) + (i : Nat) = ((p + i : Nat) : Int) from by omega, hki] at h9
           omega
          ·
           try simp only [dqT, dqF, dq1, dq2, dq3, dq4, dq5] at h103
           refine cw_skip (pq_in_normal (pq_then (cw_region (ol_pure rfl (op_move rfl) (ol_pure rfl (op_add rfl rfl (by omega) (by omega)) (ol_pure rfl (op_assign rfl) (ol_nil ?_)))))))
           refine pq_loop _ _ (by exact ⟨i + 1, rfl, by omega, by omega, rfl, hS⟩) ((Sub.cons rfl (Sub.cons rfl (Sub.cons rfl (Sub.cons rfl Sub.nil))))) (by omega)
         ·
          try simp only [dqT, dqF, dq1, dq2, dq3, dq4, dq5] at h92
          refine cw_exit (pq_exit (pq_exit (pq_in_exit (pq_then (cw_seq (cw_region (ol_pure rfl (op_assign rfl) ?_)))))))
          refine ol_nil (pq_then (cw_ret (pq_in_ret (pq_ret (ret1 rfl rfl ?_)))))
          exact hS.sc_b rfl
    ·
     try simp only [dqT, dqF, dq1, dq2, dq3, dq4, dq5] at h61
     refine cw_skip (pq_in_normal (pq_then (cw_seq (cw_region (ol_pure rfl (op_assign rfl) (ol_nil (pq_then ?_)))))))
     refine cw_ret (ret1 rfl rfl ?_)
     exfalso
     rcases hsl with h | h | h | h <;> omega
set_option maxRecDepth 100000 in
set_option maxHeartbeats 1000000 in

theorem R08_round_c (G : GH) (w0 : World) (hG : Holds G w0) (hv : Value) (cs : List Cell) (tr : List Int) (room : Int) (hh : EHeap G hv cs tr room) (hs : ShOk cs) (hr : Rk cs) (hn : cs.length ≤ 1000000) :
   Calls Try.prog 49 #[hv] w0 (Sc w0 (.bool false)) := by
 have hh0 := hh
 obtain ⟨oc, cc, ot, ct, rfl, h1, h2⟩ := hh
 have hle := h1.le
 have hle2 := h2.le
 have hcur := Le.refl G
 refine enter Try.func49 rfl (N := 31) rfl (Nat.le_of_ble_eq_true rfl) ?_
 have hS := SS.init hG
 refine cw_seq (cw_region ?_)
 refine ol_step rfl (op_box hS rfl rfl) ?_
 clear hS
 rintro _ w ⟨b2, rfl, hS⟩
 refine ol_pure rfl (op_assign rfl) (ol_nil (pq_then (cw_seq (cw_seq (cw_region (ol_pure rfl (op_assign rfl) (ol_nil ?_)))))))
 refine pq_then (cw_block ?_)
 refine cw_loop (fun e w n => ∃ (Gc : GH) (k : Nat), e = [(1, .pointer (some ⟨b2, 0, none⟩)), (3, .int .i64 (k : Nat))] ∧ Le G Gc ∧ k ≤ cs.length ∧ n = cs.length - k ∧ SS G w0 Gc [.blk b2 28 [.slice oc cs.length cc, .slice ot tr.length ct, .int .i64 room]] w) _ _ (by exact ⟨G, 0, rfl, hcur, Nat.zero_le _, rfl, hS⟩) ((Sub.cons rfl (Sub.cons rfl Sub.nil))) ?_
 clear hS
 rintro e w n ⟨Gc, k, rfl, hcur, hk, rfl, hS⟩
 refine cw_seq (cw_seq (cw_region (ol_pure rfl (op_move rfl) (ol_pure rfl (op_fieldAddr fld_28_0 rfl) (ol_load rfl (op_load1 one_25 rfl (fun w hw => (hw.bcell (i := 0) rfl).trans rfl)) hS (ol_pure rfl (op_len sl_25 rfl rfl) (ol_pure rfl (op_lss rfl rfl) ?_)))))))
 refine ol_nil (pq_then ?_)
 refine cw_cond rfl (fun h10 => ?_) (fun h10 => ?_)
 ·
  try simp only [dqT, dqF, dq1, dq2, dq3, dq4, dq5] at h10
  have hlt : k < cs.length := by omega
  refine cw_skip (pq_then (cw_seq (cw_block (cw_seq (cw_region (ol_load rfl (op_loadN agg_28 rfl (by rfl) (fun w hw k u hk => (hw.bcell (i := 0) rfl).trans hk)) hS (ol_pure rfl (op_move rfl) ?_)))))))
  refine ol_step rfl (op_call_fr hS cf_57 rfl (R08_Leads_c _ _ hS.hold _ cs tr room (hh0.mono hcur) k hlt hs)) ?_
  clear hS
  rintro v15 w ⟨F15, G15, hR15, hF15, hf15, hl15, hS⟩
  obtain ⟨o4, c4, rfl, _, _⟩ := hR15.elim
  replace hR15 := hR15.mono EInt.mono hf15
  replace hcur := hcur.trans hl15
  have hc2 := Le.refl G15
  have hll : (leadsI cs (k : Int)).length ≤ 6 := leadsI_len hs hlt
  refine ol_pure rfl (op_assign rfl) (ol_nil (pq_then (cw_seq (cw_region (ol_pure rfl (op_assign rfl) (ol_nil (pq_then ?_)))))))
  refine cw_block ?_
  refine cw_loop (fun e w n => ∃ (Gd : GH) (j : Nat), e = [(1, .pointer (some ⟨b2, 0, none⟩)), (3, .int .i64 (k : Nat)), (4, .slice o4 (leadsI cs (k : Int)).length c4), (5, .int .i64 (j : Nat))] ∧ Le G15 Gd ∧ j ≤ (leadsI cs (k : Int)).length ∧ n = (leadsI cs (k : Int)).length - j ∧ SS G w0 Gd [.blk b2 28 [.slice oc cs.length cc, .slice ot tr.length ct, .int .i64 room]] w) _ _ (by exact ⟨G15, 0, rfl, hc2, Nat.zero_le _, rfl, hS⟩) ((Sub.cons rfl (Sub.cons rfl (Sub.cons rfl (Sub.cons rfl Sub.nil))))) ?_
  clear hS
  rintro e w n ⟨Gd, j, rfl, hc2, hj, rfl, hS⟩
  refine cw_seq (cw_seq (cw_region (ol_pure rfl (op_move rfl) (ol_pure rfl (op_move rfl) (ol_pure rfl (op_len sl_26 rfl rfl) (ol_pure rfl (op_lss rfl rfl) (ol_nil ?_)))))))
  refine pq_then ?_
  refine cw_cond rfl (fun h19 => ?_) (fun h19 => ?_)
  ·
   try simp only [dqT, dqF, dq1, dq2, dq3, dq4, dq5] at h19
   have hjl : j < (leadsI cs (k : Int)).length := by omega
   obtain ⟨hol, hcl, hbl⟩ := (hR15.mono EInt.mono hc2).int hjl
   have hlr := leads_range hs hlt (List.getElem_mem hjl)
   have hnr := no_round hs hr hlt (List.getElem_mem hjl)
   obtain ⟨q, hq⟩ := Int.eq_ofNat_of_zero_le hlr.1
   have hql : q < cs.length := by omega
   refine cw_skip (pq_then (cw_seq (cw_block (cw_seq ?_))))
   refine al_start' hS (hS.take 1) (by kernel_rfl) rfl (fun w hS hT => ?_)
   refine al_load (i := 0) rfl (by kernel_rfl) (by kernel_rfl) (by kernel_rfl) rfl (fun _ _ _ h => h) (by exact op_loadN agg_28 rfl (by rfl) (fun w hw k u hk => (hw.bcell (i := 0) rfl).trans hk)) rfl hT (al_take (i := 1) rfl (by kernel_rfl) (by kernel_rfl) (by kernel_rfl) rfl (fun _ _ _ h => h) (op_move rfl) rfl (al_take (i := 2) rfl (by kernel_rfl) (by kernel_rfl) (by kernel_rfl) rfl (fun _ _ _ h => h) (op_move rfl) rfl (al_take (i := 3) rfl (by kernel_rfl) (by kernel_rfl) (by kernel_rfl) rfl (fun _ _ _ h => h) (op_indexN sl_26 rfl rfl (by omega) hol) rfl (al_load (i := 4) rfl (by kernel_rfl) (by kernel_rfl) (by kernel_rfl) rfl (fun _ _ _ h => h) (by exact op_load1 (v := .int .i64 (q : Nat)) one_3 rfl (fun w hw => hw.gcell (by rw [← hq]; exact hcl))) rfl hT (al_take (i := 6) rfl (by kernel_rfl) (by kernel_rfl) (by kernel_rfl) rfl (fun _ _ _ h => h) (op_move rfl) rfl ?_)))))
   refine al_step (i := 5) rfl (by kernel_rfl) rfl (op_call_fr hS cf_27 rfl (R08_Reach_c _ _ hS.hold _ cs tr room (hh0.mono (hcur.trans hc2)) q hql hs hn)) ?_
   clear hS
   rintro v27 w ⟨F27, G27, hR27, hF27, hf27, hl27, hS⟩
   obtain ⟨o7, c7, rfl, _, _⟩ := hR27.elimN (liveB_len cs [(q : Int)])
   replace hR27 := hR27.mono EBool.mono hf27
   obtain ⟨ho7, hc7⟩ := hR27.bool (i := k) (by rw [liveB_len]; exact hlt)
   have hat : (liveB cs [(q : Int)])[k]'(by rw [liveB_len]; exact hlt) = false := by rw [← hnr, hq, atB_nat]; simp [liveB_len, hlt]
   rw [hat] at hc7
   replace hc2 := hc2.trans hl27
   have hT := hT.back hS (by first | exact Le.refl _ | assumption) (fun x hx => by try simp only [bkA, bkB, bkC, bkD, bkE] at hx; (rcases hx with rfl) <;> simp)
   refine ⟨fun _ _ => hT, ?_⟩
   refine al_take (i := 7) rfl (by kernel_rfl) (by kernel_rfl) (by kernel_rfl) rfl (fun _ _ _ h => h) (op_indexN sl_34 rfl rfl (by omega) ho7) rfl ?_
   refine al_step (i := 8) rfl (by kernel_rfl) rfl ((op_load1 (v := .bool false) one_4 rfl (fun w hw => hw.gcell hc7)).keep hS) ?_
   clear hS
   rintro _ w ⟨rfl, hS⟩
   have hT := hT.back hS (by first | exact Le.refl _ | assumption) (fun x hx => by try simp only [bkA, bkB, bkC, bkD, bkE] at hx; (rcases hx with rfl) <;> simp)
   refine ⟨fun _ _ => hT, ?_⟩
   refine al_done (by kernel_rfl) (pq_then (cw_cond_f rfl (cw_skip (pq_in_normal (pq_then (cw_region (ol_pure rfl (op_move rfl) ?_)))))))
   refine ol_pure rfl (op_add rfl rfl (by omega) (by omega)) (ol_pure rfl (op_assign rfl) (ol_nil ?_))
   refine pq_loop _ _ (by exact ⟨_, j + 1, rfl, hc2, by omega, rfl, hS⟩) ((Sub.cons rfl (Sub.cons rfl (Sub.cons rfl (Sub.cons rfl Sub.nil))))) (by omega)
  ·
   try simp only [dqT, dqF, dq1, dq2, dq3, dq4, dq5] at h19
   refine cw_exit (pq_exit (pq_exit (pq_in_exit (pq_in_normal (pq_then (cw_region (ol_pure rfl (op_move rfl) ?_)))))))
   refine ol_pure rfl (op_add rfl rfl (by omega) (by omega)) (ol_pure rfl (op_assign rfl) (ol_nil ?_))
   refine pq_loop _ _ (by exact ⟨_, k + 1, rfl, hcur.trans hc2, by omega, rfl, hS⟩) ((Sub.cons rfl (Sub.cons rfl Sub.nil))) (by omega)
 ·
  try simp only [dqT, dqF, dq1, dq2, dq3, dq4, dq5] at h10
  refine cw_exit (pq_exit (pq_exit (pq_in_exit (pq_then (cw_seq (cw_region (ol_pure rfl (op_assign rfl) ?_)))))))
  refine ol_nil (pq_then (cw_ret (ret1 rfl rfl ?_)))
  exact hS.sc_b rfl
set_option maxRecDepth 100000 in
set_option maxHeartbeats 1000000 in

theorem R08_Right_c (G : GH) (w0 : World) (hG : Holds G w0) (hv : Value) (cs : List Cell) (tr : List Int) (room : Int) (hh : EHeap G hv cs tr room) (hp : HpOk cs tr) (hr1 : 1 ≤ room) (hr2 : room ≤ 4096) (hr3 : (cs.length : Int) ≤ room) :
   Calls Try.prog 23 #[hv] w0 (Sc w0 (.bool true)) := by
 have hh0 := hh
 obtain ⟨oc, cc, ot, ct, rfl, h1, h2⟩ := hh
 have hle := h1.le
 have hle2 := h2.le
 refine enter Try.func23 rfl (N := 62) rfl (Nat.le_of_ble_eq_true rfl) ?_
 have hS := SS.init hG
 refine cw_seq (cw_region ?_)
 refine ol_step rfl (op_box hS rfl rfl) ?_
 clear hS
 rintro _ w ⟨b2, rfl, hS⟩
 refine ol_pure rfl (op_assign rfl) (ol_nil (pq_then (cw_seq (cw_seq (cw_region (ol_pure rfl (op_fieldAddr fld_28_2 rfl) (ol_load rfl (op_load1 one_3 rfl (fun w hw => (hw.bcell (i := 0) rfl).trans rfl)) hS ?_)))))))
 refine ol_pure rfl (op_lss rfl rfl) (ol_pure rfl (op_move rfl) ?_)
 refine ol_split (fun h8 => ?_) (fun h8 => ?_)
 ·
  try simp only [dqT, dqF, dq1, dq2, dq3, dq4, dq5] at h8
  refine ol_guard_no rfl rfl rfl rfl (ol_guard_no rfl rfl rfl rfl (ol_guard_no rfl rfl rfl rfl (ol_pure rfl (op_pick_t rfl rfl) (ol_pure rfl (op_move rfl) (ol_guard_no rfl rfl rfl rfl (ol_guard_no rfl rfl rfl rfl (ol_guard_no rfl rfl rfl rfl ?_)))))))
  refine ol_guard_no rfl rfl rfl rfl (ol_guard_no rfl rfl rfl rfl (ol_guard_no rfl rfl rfl rfl (ol_pure rfl (op_pick_t rfl rfl) (ol_nil (pq_then (cw_cond_t rfl (cw_seq ?_)))))))
  refine cw_region (ol_pure rfl (op_assign rfl) (ol_nil (pq_then (cw_ret (pq_ret (ret1 rfl rfl ?_))))))
  first | exact hS.sc_b rfl | (exfalso; first | omega | simp_all)
 ·
  try simp only [dqT, dqF, dq1, dq2, dq3, dq4, dq5] at h8
  refine ol_guard_pure rfl rfl rfl (op_fieldAddr fld_28_2 rfl) (ol_guard_load rfl rfl rfl (op_load1 one_3 rfl (fun w hw => (hw.bcell (i := 0) rfl).trans rfl)) hS (ol_guard_pure rfl rfl rfl (op_gtr rfl rfl) (ol_pure rfl (op_pick_f rfl rfl) (ol_pure rfl (op_move rfl) ?_))))
  refine ol_split (fun h13 => ?_) (fun h13 => ?_)
  ·
   try simp only [dqT, dqF, dq1, dq2, dq3, dq4, dq5] at h13
   refine ol_guard_no rfl rfl rfl rfl (ol_guard_no rfl rfl rfl rfl (ol_guard_no rfl rfl rfl rfl (ol_guard_no rfl rfl rfl rfl (ol_guard_no rfl rfl rfl rfl (ol_guard_no rfl rfl rfl rfl (ol_pure rfl (op_pick_t rfl rfl) (ol_nil ?_)))))))
   refine pq_then (cw_cond_t rfl (cw_seq (cw_region (ol_pure rfl (op_assign rfl) (ol_nil (pq_then (cw_ret ?_)))))))
   refine pq_ret (ret1 rfl rfl ?_)
   first | exact hS.sc_b rfl | (exfalso; first | omega | simp_all)
  ·
   try simp only [dqT, dqF, dq1, dq2, dq3, dq4, dq5] at h13
   refine ol_guard_pure rfl rfl rfl (op_fieldAddr fld_28_0 rfl) (ol_guard_load rfl rfl rfl (op_load1 one_25 rfl (fun w hw => (hw.bcell (i := 0) rfl).trans rfl)) hS (ol_guard_pure rfl rfl rfl (op_len sl_25 rfl rfl) (ol_guard_pure rfl rfl rfl (op_fieldAddr fld_28_2 rfl) (ol_guard_load rfl rfl rfl (op_load1 one_3 rfl (fun w hw => (hw.bcell (i := 0) rfl).trans rfl)) hS (ol_guard_pure rfl rfl rfl (op_gtr rfl rfl) (ol_pure rfl (op_pick_f rfl rfl) (ol_nil ?_)))))))
   refine pq_then ?_
   refine cw_cond rfl (fun h20 => ?_) (fun h20 => ?_)
   ·
    try simp only [dqT, dqF, dq1, dq2, dq3, dq4, dq5] at h20
    refine cw_seq (cw_region (ol_pure rfl (op_assign rfl) (ol_nil (pq_then (cw_ret (pq_ret (ret1 rfl rfl ?_)))))))
    first | exact hS.sc_b rfl | (exfalso; first | omega | simp_all)
   ·
    try simp only [dqT, dqF, dq1, dq2, dq3, dq4, dq5] at h20
    refine cw_skip (pq_then (cw_seq (cw_seq (cw_region (ol_pure rfl (op_assign rfl) (ol_nil (pq_then ?_)))))))
    refine cw_block ?_
    refine cw_loop (fun e w n => ∃ (k : Nat), e = [(1, .pointer (some ⟨b2, 0, none⟩)), (3, .int .i64 (k : Nat))] ∧ k ≤ cs.length ∧ n = cs.length - k ∧ SS G w0 G [.blk b2 28 [.slice oc cs.length cc, .slice ot tr.length ct, .int .i64 room]] w) _ _ (by exact ⟨0, rfl, Nat.zero_le _, rfl, hS⟩) ((Sub.cons rfl (Sub.cons rfl Sub.nil))) ?_
    clear hS
    rintro e w n ⟨k, rfl, hk, rfl, hS⟩
    refine cw_seq (cw_seq (cw_region (ol_pure rfl (op_move rfl) (ol_pure rfl (op_fieldAddr fld_28_0 rfl) (ol_load rfl (op_load1 one_25 rfl (fun w hw => (hw.bcell (i := 0) rfl).trans rfl)) hS (ol_pure rfl (op_len sl_25 rfl rfl) (ol_pure rfl (op_lss rfl rfl) ?_)))))))
    refine ol_nil (pq_then ?_)
    refine cw_cond rfl (fun h25 => ?_) (fun h25 => ?_)
    ·
     try simp only [dqT, dqF, dq1, dq2, dq3, dq4, dq5] at h25
     have hlt : k < cs.length := by omega
     refine cw_skip (pq_then (cw_seq (cw_block (cw_seq (cw_region (ol_load rfl (op_loadN agg_28 rfl (by rfl) (fun w hw k u hk => (hw.bcell (i := 0) rfl).trans hk)) hS (ol_pure rfl (op_move rfl) ?_)))))))
     refine ol_step rfl (op_call_sc hS cf_46 rfl (R08_slot_c _ _ hS.hold _ cs tr room hh0 k hlt (hp.slots k hlt))) ?_
     clear hS
     rintro _ w ⟨rfl, hS⟩
     refine ol_pure rfl (op_not rfl) (ol_nil (pq_then ?_))
     refine cw_cond rfl (fun h31 => ?_) (fun h31 => ?_)
     ·
      try simp only [dqT, dqF, dq1, dq2, dq3, dq4, dq5] at h31
      refine cw_seq (cw_region (ol_pure rfl (op_assign rfl) (ol_nil (pq_then (cw_ret (pq_in_ret (pq_ret ?_)))))))
      refine pq_ret (pq_in_ret (pq_ret (ret1 rfl rfl ?_)))
      first | exact hS.sc_b rfl | (exfalso; first | omega | simp_all)
     ·
      try simp only [dqT, dqF, dq1, dq2, dq3, dq4, dq5] at h31
      refine cw_skip (pq_in_normal (pq_then (cw_region (ol_pure rfl (op_move rfl) (ol_pure rfl (op_add rfl rfl (by omega) (by omega)) (ol_pure rfl (op_assign rfl) (ol_nil ?_)))))))
      refine pq_loop _ _ (by exact ⟨k + 1, rfl, by omega, rfl, hS⟩) ((Sub.cons rfl (Sub.cons rfl Sub.nil))) (by omega)
    ·
     try simp only [dqT, dqF, dq1, dq2, dq3, dq4, dq5] at h25
     refine cw_exit (pq_exit (pq_exit (pq_in_exit (pq_then (cw_seq (cw_seq (cw_region ?_)))))))
     refine ol_pure rfl (op_assign rfl) (ol_nil (pq_then (cw_block ?_)))
     refine cw_loop (fun e w n => ∃ (k : Nat), e = [(1, .pointer (some ⟨b2, 0, none⟩)), (4, .int .i64 (k : Nat))] ∧ k ≤ tr.length ∧ n = tr.length - k ∧ SS G w0 G [.blk b2 28 [.slice oc cs.length cc, .slice ot tr.length ct, .int .i64 room]] w) _ _ (by exact ⟨0, rfl, Nat.zero_le _, rfl, hS⟩) ((Sub.cons rfl (Sub.cons rfl Sub.nil))) ?_
     clear hS
     rintro e w n ⟨k, rfl, hk, rfl, hS⟩
     refine cw_seq (cw_seq (cw_region (ol_pure rfl (op_move rfl) (ol_pure rfl (op_fieldAddr fld_28_1 rfl) (ol_load rfl (op_load1 one_26 rfl (fun w hw => (hw.bcell (i := 0) rfl).trans rfl)) hS (ol_pure rfl (op_len sl_26 rfl rfl) (ol_pure rfl (op_lss rfl rfl) ?_)))))))
     refine ol_nil (pq_then ?_)
     refine cw_cond rfl (fun h36 => ?_) (fun h36 => ?_)
     ·
      try simp only [dqT, dqF, dq1, dq2, dq3, dq4, dq5] at h36
      have hlt : k < tr.length := by omega
      obtain ⟨hot, hct, hbt⟩ := h2.int hlt
      have hbd := hp.bound _ (List.getElem_mem hlt)
      have hnm : decide (tr[k] ∈ tr.take k) = false := by
        rw [decide_eq_false_iff_not]
        intro hm
        obtain ⟨i, hi, he⟩ := List.getElem_of_mem hm
        simp only [List.length_take] at hi
        rw [List.getElem_take] at he
        have := (List.pairwise_iff_getElem.1 hp.nodup) i k (by omega) hlt (by omega)
        exact this he
      refine cw_skip (pq_then (cw_seq (cw_block (cw_seq ?_))))
      refine al_start' hS (hS.take 1) (by kernel_rfl) rfl (fun w hS hT => ?_)
      refine al_load (i := 0) rfl (by kernel_rfl) (by kernel_rfl) (by kernel_rfl) rfl (fun _ _ _ h => h) (by exact op_loadN agg_28 rfl (by rfl) (fun w hw k u hk => (hw.bcell (i := 0) rfl).trans hk)) rfl hT (al_take (i := 1) rfl (by kernel_rfl) (by kernel_rfl) (by kernel_rfl) rfl (fun _ _ _ h => h) (op_fieldAddr fld_28_1 rfl) rfl (al_load (i := 2) rfl (by kernel_rfl) (by kernel_rfl) (by kernel_rfl) rfl (fun _ _ _ h => h) (by exact op_load1 one_26 rfl (fun w hw => (hw.bcell (i := 0) rfl).trans rfl)) rfl hT (al_take (i := 3) rfl (by kernel_rfl) (by kernel_rfl) (by kernel_rfl) rfl (fun _ _ _ h => h) (op_move rfl) rfl (al_take (i := 4) rfl (by kernel_rfl) (by kernel_rfl) (by kernel_rfl) rfl (fun _ _ _ h => h) (op_indexN sl_26 rfl rfl (by omega) hot) rfl (al_load (i := 5) rfl (by kernel_rfl) (by kernel_rfl) (by kernel_rfl) rfl (fun _ _ _ h => h) (by exact op_load1 one_3 rfl (fun w hw => hw.gcell hct)) rfl hT ?_)))))
      refine al_step (i := 6) rfl (by kernel_rfl) rfl (op_call_sc hS cf_47 rfl (R08_Bound_c _ _ hS.hold _ cs tr room hh0 tr[k])) ?_
      clear hS
      rintro _ w ⟨rfl, hS⟩
      have hT := hT.back hS (by first | exact Le.refl _ | assumption) (fun x hx => by try simp only [bkA, bkB, bkC, bkD, bkE] at hx; (rcases hx with rfl) <;> simp)
      refine ⟨fun _ _ => hT, ?_⟩
      refine al_take (i := 7) rfl (by kernel_rfl) (by kernel_rfl) (by kernel_rfl) rfl (fun _ _ _ h => h) (op_not rfl) rfl (al_take (i := 8) rfl (by kernel_rfl) (by kernel_rfl) (by kernel_rfl) rfl (fun _ _ _ h => h) (op_move rfl) rfl ?_)
      refine al_split (fun h47 => ?_) (fun h47 => ?_)
      ·
       try simp only [dqT, dqF, dq1, dq2, dq3, dq4, dq5] at h47
       refine al_gskip (i := 9) rfl (by kernel_rfl) (by kernel_rfl) (by kernel_rfl) rfl rfl rfl rfl (fun _ _ _ h => h) (fun _ => hT) (al_gskip (i := 10) rfl (by kernel_rfl) (by kernel_rfl) (by kernel_rfl) rfl rfl rfl rfl (fun _ _ _ h => h) (fun _ => hT) (al_gskip (i := 11) rfl (by kernel_rfl) (by kernel_rfl) (by kernel_rfl) rfl rfl rfl rfl (fun _ _ _ h => h) (fun _ => hT) (al_gskip (i := 12) rfl (by kernel_rfl) (by kernel_rfl) (by kernel_rfl) rfl rfl rfl rfl (fun _ _ _ h => h) (fun _ => hT) (al_gskip (i := 13) rfl (by kernel_rfl) (by kernel_rfl) (by kernel_rfl) rfl rfl rfl rfl (fun _ _ _ h => h) (fun _ => hT) (al_gskip (i := 14) rfl (by kernel_rfl) (by kernel_rfl) (by kernel_rfl) rfl rfl rfl rfl (fun _ _ _ h => h) (fun _ => hT) (al_gskip (i := 15) rfl (by kernel_rfl) (by kernel_rfl) (by kernel_rfl) rfl rfl rfl rfl (fun _ _ _ h => h) (fun _ => hT) (al_gskip (i := 16) rfl (by kernel_rfl) (by kernel_rfl) (by kernel_rfl) rfl rfl rfl rfl (fun _ _ _ h => h) (fun _ => hT) ?_)))))))
       refine al_gskip (i := 17) rfl (by kernel_rfl) (by kernel_rfl) (by kernel_rfl) rfl rfl rfl rfl (fun _ _ _ h => h) (fun _ => hT) (al_gskip (i := 18) rfl (by kernel_rfl) (by kernel_rfl) (by kernel_rfl) rfl rfl rfl rfl (fun _ _ _ h => h) (fun _ => hT) (al_take (i := 19) rfl (by kernel_rfl) (by kernel_rfl) (by kernel_rfl) rfl (fun _ _ _ h => h) (op_pick_t rfl rfl) rfl (al_done (by kernel_rfl) (pq_then (cw_cond_t rfl (cw_seq (cw_region ?_)))))))
       refine ol_pure rfl (op_assign rfl) (ol_nil (pq_then (cw_ret (pq_in_ret (pq_ret (pq_ret (pq_in_ret ?_)))))))
       refine pq_ret (ret1 rfl rfl ?_)
       first | exact hS.sc_b rfl | (exfalso; first | omega | simp_all)
      ·
       try simp only [dqT, dqF, dq1, dq2, dq3, dq4, dq5] at h47
       refine al_gtake (i := 9) rfl (by kernel_rfl) (by kernel_rfl) (by kernel_rfl) rfl rfl rfl (fun _ _ _ h => h) (op_fieldAddr fld_28_1 rfl) rfl (al_gload (i := 10) rfl (by kernel_rfl) (by kernel_rfl) (by kernel_rfl) rfl rfl rfl (fun _ _ _ h => h) (by exact op_load1 one_26 rfl (fun w hw => (hw.bcell (i := 0) rfl).trans rfl)) rfl hT (al_gtake (i := 11) rfl (by kernel_rfl) (by kernel_rfl) (by kernel_rfl) rfl rfl rfl (fun _ _ _ h => h) (op_move rfl) rfl (al_gtake (i := 12) rfl (by kernel_rfl) (by kernel_rfl) (by kernel_rfl) rfl rfl rfl (fun _ _ _ h => h) (op_sliceP (c := ct) (h := k) sl_26 rfl rfl (by have := h2.len; omega)) rfl (al_gtake (i := 13) rfl (by kernel_rfl) (by kernel_rfl) (by kernel_rfl) rfl rfl rfl (fun _ _ _ h => h) (op_fieldAddr fld_28_1 rfl) rfl (al_gload (i := 14) rfl (by kernel_rfl) (by kernel_rfl) (by kernel_rfl) rfl rfl rfl (fun _ _ _ h => h) (by exact op_load1 one_26 rfl (fun w hw => (hw.bcell (i := 0) rfl).trans rfl)) rfl hT (al_gtake (i := 15) rfl (by kernel_rfl) (by kernel_rfl) (by kernel_rfl) rfl rfl rfl (fun _ _ _ h => h) (op_move rfl) rfl (al_gtake (i := 16) rfl (by kernel_rfl) (by kernel_rfl) (by kernel_rfl) rfl rfl rfl (fun _ _ _ h => h) (op_indexN sl_26 rfl rfl (by omega) hot) rfl ?_)))))))
       refine al_gload (i := 17) rfl (by kernel_rfl) (by kernel_rfl) (by kernel_rfl) rfl rfl rfl (fun _ _ _ h => h) (by exact op_load1 one_3 rfl (fun w hw => hw.gcell hct)) rfl hT ?_
       refine al_gstep (i := 18) rfl (by kernel_rfl) rfl rfl rfl (op_call_sc hS cf_48 rfl (R01_In_c _ _ hS.hold _ (tr.take k) tr[k] (h2.pre (by omega)))) ?_
       clear hS
       rintro _ w ⟨rfl, hS⟩
       have hT := hT.back hS (by first | exact Le.refl _ | assumption) (fun x hx => by try simp only [bkA, bkB, bkC, bkD, bkE] at hx; (rcases hx with rfl) <;> simp)
       refine ⟨fun _ _ => hT, ?_⟩
       refine al_take (i := 19) rfl (by kernel_rfl) (by kernel_rfl) (by kernel_rfl) rfl (fun _ _ _ h => h) (op_pick_f rfl rfl) rfl (al_done (by kernel_rfl) (pq_then ?_))
       refine cw_cond rfl (fun h58 => ?_) (fun h58 => ?_)
       ·
        try simp only [dqT, dqF, dq1, dq2, dq3, dq4, dq5] at h58
        refine cw_seq (cw_region (ol_pure rfl (op_assign rfl) (ol_nil (pq_then (cw_ret (pq_in_ret (pq_ret ?_)))))))
        refine pq_ret (pq_in_ret (pq_ret (ret1 rfl rfl ?_)))
        first | exact hS.sc_b rfl | (exfalso; first | omega | simp_all)
       ·
        try simp only [dqT, dqF, dq1, dq2, dq3, dq4, dq5] at h58
        refine cw_skip (pq_in_normal (pq_then (cw_region (ol_pure rfl (op_move rfl) (ol_pure rfl (op_add rfl rfl (by omega) (by omega)) (ol_pure rfl (op_assign rfl) (ol_nil ?_)))))))
        refine pq_loop _ _ (by exact ⟨k + 1, rfl, by omega, rfl, hS⟩) ((Sub.cons rfl (Sub.cons rfl Sub.nil))) (by omega)
     ·
      try simp only [dqT, dqF, dq1, dq2, dq3, dq4, dq5] at h36
      refine cw_exit (pq_exit (pq_exit (pq_in_exit (pq_then (cw_seq (cw_region (ol_load rfl (op_loadN agg_28 rfl (by rfl) (fun w hw k u hk => (hw.bcell (i := 0) rfl).trans hk)) hS ?_)))))))
      refine ol_step rfl (op_call_sc hS cf_49 rfl (R08_round_c _ _ hS.hold _ cs tr room hh0 hp.slots.ok hp.rank (by omega))) ?_
      clear hS
      rintro _ w ⟨rfl, hS⟩
      refine ol_pure rfl (op_not rfl) (ol_pure rfl (op_assign rfl) (ol_nil (pq_then (cw_ret (ret1 rfl rfl ?_)))))
      first | exact hS.sc_b rfl | (exfalso; first | omega | simp_all)
end Go.Proofs.Ytnmkffkalnkbbaa.K
