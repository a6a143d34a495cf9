/-
  Which programs are few and right.
  No condition but the premises that each theorem names.
-/
import Derived.Test.YtbpmkidaoemebaaTerms
namespace Go.Proofs.Ytbpmkidaoemebaa.K
open Go Go.RowKit
set_option linter.unusedVariables false
set_option linter.unusedSimpArgs false

open Pl

set_option maxRecDepth 100000 in
set_option maxHeartbeats 2000000 in

theorem R16_Right_c (G : GH) (w0 : World) (hG : Holds G w0) (va vr : Value) (atoms : List (List Cell)) (rs : List Rule) (h1 : RSl 1 EAtom G va atoms) (h2 : RSl 3 ERule G vr rs) (hlen : ∀ t ∈ atoms, t.length ≤ 1000000) :
    Calls Try.prog 23 #[.agg #[va, vr]] w0 (Sc w0 (.bool (rightPB atoms rs))) := by
  obtain ⟨oA, cA, rfl, hlA, hmA⟩ := h1.elim
  obtain ⟨oR, cR, rfl, hlR, hmR⟩ := h2.elim
  have hle1 := h1.le
  have hle2 := h2.le
  refine enter Try.func23 rfl (N := 100) rfl (Nat.le_of_ble_eq_true rfl) ?_
  have hS := SS.init hG
  refine cw_seq ?_
  refine cw_region ?_
  -- r0.0 t1 := box [25] t0
  refine ol_step rfl (op_box hS rfl rfl) ?_
  clear hS
  rintro _ w ⟨b1, rfl, hS⟩
  -- r0.1 t2 := assign  Cfalse
  refine ol_pure rfl (op_assign rfl) ?_
  refine ol_nil ?_
  refine pq_then ?_
  refine cw_seq ?_
  refine cw_region ?_
  -- r1.0 t7 := fieldAddr [25, 0] t1
  refine ol_pure rfl (op_fieldAddr fld_25_0 rfl) ?_
  -- r1.1 t8 := load [22] t7
  refine ol_load rfl (op_load1 one_22 rfl (fun w hw => (hw.bcell (i := 0) rfl).trans rfl)) hS ?_
  -- r1.2 t9 := call len t8
  refine ol_pure rfl (op_len sl_22 rfl rfl) ?_
  -- r1.3 t3 := assign  t9
  refine ol_pure rfl (op_assign rfl) ?_
  refine ol_nil ?_
  refine pq_then ?_
  refine cw_seq ?_
  refine cw_seq ?_
  refine cw_region ?_
  -- r2.0 t4 := assign  C0
  refine ol_pure rfl (op_assign rfl) ?_
  refine ol_nil ?_
  refine pq_then ?_
  refine cw_block ?_
  refine cw_loop (fun e w n => ∃ k : Nat, e = [(1, .pointer (some ⟨b1, 0, none⟩)), (3, .int .i64 (atoms.length : Nat)), (4, .int .i64 (k : Nat))] ∧ k ≤ atoms.length ∧ n = atoms.length - k ∧ allTo (fun t => atomT t && groundT t) (fun a b => decide (cmpT a b < 0)) atoms k ∧ SS G w0 G [.blk b1 25 [.slice oA atoms.length cA, .slice oR rs.length cR]] w) _ _ (by exact ⟨0, rfl, Nat.zero_le _, rfl, .zero, hS⟩) ((Sub.cons rfl (Sub.cons rfl (Sub.cons rfl Sub.nil)))) ?_
  clear hS
  rintro e w n ⟨k, rfl, hk, rfl, hp, hS⟩
  refine cw_seq ?_
  refine cw_seq ?_
  refine cw_region ?_
  -- r3.0 t10 := move  t4
  refine ol_pure rfl (op_move rfl) ?_
  -- r3.1 t11 := move  t3
  refine ol_pure rfl (op_move rfl) ?_
  -- r3.2 t12 := lss t10 t11
  refine ol_pure rfl (op_lss rfl rfl) ?_
  refine ol_nil ?_
  refine pq_then ?_
  refine cw_cond rfl (fun h12 => ?_) (fun h12 => ?_)
  · skip
    try simp only [decide_eq_true_eq, decide_eq_false_iff_not, Bool.not_eq_true', Bool.not_eq_false', Bool.not_eq_eq_eq_not, Bool.not_true, Bool.not_false] at h12
    have hlt : k < atoms.length := by omega
    obtain ⟨hoa, ob, d, hcell, hat, hd1, hd2⟩ := h1.slAt hlt
    refine cw_skip ?_
    refine pq_then ?_
    refine cw_seq ?_
    refine cw_block ?_
    refine cw_seq ?_
    refine al_start' hS (hS.take 1) (by kernel_rfl) rfl (fun w hS hT => ?_)
    -- r5.0 t15 := fieldAddr [25, 0] t1
    refine al_take (i := 0) rfl (by kernel_rfl) (by kernel_rfl) (by kernel_rfl) rfl (fun _ _ _ h => h) (op_fieldAddr fld_25_0 rfl) rfl ?_
    -- r5.1 t16 := load [22] t15
    refine al_load (i := 1) rfl (by kernel_rfl) (by kernel_rfl) (by kernel_rfl) rfl (fun _ _ _ h => h) (by exact op_load1 one_22 rfl (fun w hw => (hw.bcell (i := 0) rfl).trans rfl)) rfl hT ?_
    -- r5.2 t17 := move  t4
    refine al_take (i := 2) rfl (by kernel_rfl) (by kernel_rfl) (by kernel_rfl) rfl (fun _ _ _ h => h) (op_move rfl) rfl ?_
    -- r5.3 t18 := indexAddr [22] t16 t17
    refine al_take (i := 3) rfl (by kernel_rfl) (by kernel_rfl) (by kernel_rfl) rfl (fun _ _ _ h => h) (op_indexN sl_22 rfl rfl (by omega) (by assumption)) rfl ?_
    -- r5.4 t19 := load [70] t18
    refine al_load (i := 4) rfl (by kernel_rfl) (by kernel_rfl) (by kernel_rfl) rfl (fun _ _ _ h => h) (by exact op_load1 one_70 rfl (fun w hw => hw.gcell hcell)) rfl hT ?_
    refine al_step (i := 5) rfl (by kernel_rfl) rfl (op_call_sc hS cf_40 rfl (R07_Atom_c G _ hS.hold _ atoms[k] hat)) ?_
    clear hS
    rintro _ w ⟨rfl, hS⟩
    have hT := hT.back hS (by first | exact Le.refl _ | assumption) (fun x hx => by try simp only [List.take_succ_cons, List.take_zero, List.mem_cons, List.not_mem_nil, or_false] at hx; (rcases hx with rfl) <;> simp)
    refine ⟨fun _ _ => hT, ?_⟩
    -- r5.6 t21 := not t20
    refine al_take (i := 6) rfl (by kernel_rfl) (by kernel_rfl) (by kernel_rfl) rfl (fun _ _ _ h => h) (op_not rfl) rfl ?_
    -- r5.7 t22 := move  t21
    refine al_take (i := 7) rfl (by kernel_rfl) (by kernel_rfl) (by kernel_rfl) rfl (fun _ _ _ h => h) (op_move rfl) rfl ?_
    refine al_split (fun h22 => ?_) (fun h22 => ?_)
    · skip
      try simp only [decide_eq_true_eq, decide_eq_false_iff_not, Bool.not_eq_true', Bool.not_eq_false', Bool.not_eq_eq_eq_not, Bool.not_true, Bool.not_false] at h22
      refine al_gskip (i := 8) rfl (by kernel_rfl) (by kernel_rfl) (by kernel_rfl) rfl rfl rfl rfl (fun _ _ _ h => h) (fun _ => hT) ?_
      refine al_gskip (i := 9) rfl (by kernel_rfl) (by kernel_rfl) (by kernel_rfl) rfl rfl rfl rfl (fun _ _ _ h => h) (fun _ => hT) ?_
      refine al_gskip (i := 10) rfl (by kernel_rfl) (by kernel_rfl) (by kernel_rfl) rfl rfl rfl rfl (fun _ _ _ h => h) (fun _ => hT) ?_
      refine al_gskip (i := 11) rfl (by kernel_rfl) (by kernel_rfl) (by kernel_rfl) rfl rfl rfl rfl (fun _ _ _ h => h) (fun _ => hT) ?_
      refine al_gskip (i := 12) rfl (by kernel_rfl) (by kernel_rfl) (by kernel_rfl) rfl rfl rfl rfl (fun _ _ _ h => h) (fun _ => hT) ?_
      refine al_gskip (i := 13) rfl (by kernel_rfl) (by kernel_rfl) (by kernel_rfl) rfl rfl rfl rfl (fun _ _ _ h => h) (fun _ => hT) ?_
      refine al_gskip (i := 14) rfl (by kernel_rfl) (by kernel_rfl) (by kernel_rfl) rfl rfl rfl rfl (fun _ _ _ h => h) (fun _ => hT) ?_
      -- r5.15 t30 := pick  t22 Ctrue t29
      refine al_take (i := 15) rfl (by kernel_rfl) (by kernel_rfl) (by kernel_rfl) rfl (fun _ _ _ h => h) (op_pick_t rfl rfl) rfl ?_
      -- r5.16 t31 := move  t30
      refine al_take (i := 16) rfl (by kernel_rfl) (by kernel_rfl) (by kernel_rfl) rfl (fun _ _ _ h => h) (op_move rfl) rfl ?_
      refine al_gskip (i := 17) rfl (by kernel_rfl) (by kernel_rfl) (by kernel_rfl) rfl rfl rfl rfl (fun _ _ _ h => h) (fun _ => hT) ?_
      refine al_gskip (i := 18) rfl (by kernel_rfl) (by kernel_rfl) (by kernel_rfl) rfl rfl rfl rfl (fun _ _ _ h => h) (fun _ => hT) ?_
      refine al_gskip (i := 19) rfl (by kernel_rfl) (by kernel_rfl) (by kernel_rfl) rfl rfl rfl rfl (fun _ _ _ h => h) (fun _ => hT) ?_
      refine al_gundef (i := 20) rfl (by kernel_rfl) (by kernel_rfl) (by kernel_rfl) rfl rfl rfl (fun _ _ _ h => h) (fun _ => hT) ?_
      refine al_gundef (i := 21) rfl (by kernel_rfl) (by kernel_rfl) (by kernel_rfl) rfl rfl rfl (fun _ _ _ h => h) (fun _ => hT) ?_
      refine al_gundef (i := 22) rfl (by kernel_rfl) (by kernel_rfl) (by kernel_rfl) rfl rfl rfl (fun _ _ _ h => h) (fun _ => hT) ?_
      refine al_gundef (i := 23) rfl (by kernel_rfl) (by kernel_rfl) (by kernel_rfl) rfl rfl rfl (fun _ _ _ h => h) (fun _ => hT) ?_
      refine al_gundef (i := 24) rfl (by kernel_rfl) (by kernel_rfl) (by kernel_rfl) rfl rfl rfl (fun _ _ _ h => h) (fun _ => hT) ?_
      refine al_gundef (i := 25) rfl (by kernel_rfl) (by kernel_rfl) (by kernel_rfl) rfl rfl rfl (fun _ _ _ h => h) (fun _ => hT) ?_
      refine al_gundef (i := 26) rfl (by kernel_rfl) (by kernel_rfl) (by kernel_rfl) rfl rfl rfl (fun _ _ _ h => h) (fun _ => hT) ?_
      refine al_gundef (i := 27) rfl (by kernel_rfl) (by kernel_rfl) (by kernel_rfl) rfl rfl rfl (fun _ _ _ h => h) (fun _ => hT) ?_
      refine al_gundef (i := 28) rfl (by kernel_rfl) (by kernel_rfl) (by kernel_rfl) rfl rfl rfl (fun _ _ _ h => h) (fun _ => hT) ?_
      refine al_gundef (i := 29) rfl (by kernel_rfl) (by kernel_rfl) (by kernel_rfl) rfl rfl rfl (fun _ _ _ h => h) (fun _ => hT) ?_
      refine al_gundef (i := 30) rfl (by kernel_rfl) (by kernel_rfl) (by kernel_rfl) rfl rfl rfl (fun _ _ _ h => h) (fun _ => hT) ?_
      refine al_gundef (i := 31) rfl (by kernel_rfl) (by kernel_rfl) (by kernel_rfl) rfl rfl rfl (fun _ _ _ h => h) (fun _ => hT) ?_
      refine al_gundef (i := 32) rfl (by kernel_rfl) (by kernel_rfl) (by kernel_rfl) rfl rfl rfl (fun _ _ _ h => h) (fun _ => hT) ?_
      refine al_gskip (i := 33) rfl (by kernel_rfl) (by kernel_rfl) (by kernel_rfl) rfl rfl rfl rfl (fun _ _ _ h => h) (fun _ => hT) ?_
      -- r5.34 t49 := pick  t31 Ctrue t48
      refine al_take (i := 34) rfl (by kernel_rfl) (by kernel_rfl) (by kernel_rfl) rfl (fun _ _ _ h => h) (op_pick_t rfl rfl) rfl ?_
      refine al_done (by kernel_rfl) ?_
      refine pq_then ?_
      refine cw_cond_t rfl ?_
      refine cw_seq ?_
      refine cw_region ?_
      -- r6.0 t2 := assign  Cfalse
      refine ol_pure rfl (op_assign rfl) ?_
      refine ol_nil ?_
      refine pq_then ?_
      refine cw_ret ?_
      refine pq_in_ret ?_
      refine pq_ret ?_
      refine pq_ret ?_
      refine pq_in_ret ?_
      refine pq_ret ?_
      refine ret1 rfl rfl ?_
      -- ret1 h12t h22t
      exact hS.sc_b (rightPB_f fun hR => by have := hR.atom.at_ hlt; simp [h22] at this)
    · skip
      try simp only [decide_eq_true_eq, decide_eq_false_iff_not, Bool.not_eq_true', Bool.not_eq_false', Bool.not_eq_eq_eq_not, Bool.not_true, Bool.not_false] at h22
      -- r5.8 t23 := fieldAddr [25, 0] t1 ?7=False
      refine al_gtake (i := 8) rfl (by kernel_rfl) (by kernel_rfl) (by kernel_rfl) rfl rfl rfl (fun _ _ _ h => h) (op_fieldAddr fld_25_0 rfl) rfl ?_
      -- r5.9 t24 := load [22] t23 ?7=False
      refine al_gload (i := 9) rfl (by kernel_rfl) (by kernel_rfl) (by kernel_rfl) rfl rfl rfl (fun _ _ _ h => h) (by exact op_load1 one_22 rfl (fun w hw => (hw.bcell (i := 0) rfl).trans rfl)) rfl hT ?_
      -- r5.10 t25 := move  t4 ?7=False
      refine al_gtake (i := 10) rfl (by kernel_rfl) (by kernel_rfl) (by kernel_rfl) rfl rfl rfl (fun _ _ _ h => h) (op_move rfl) rfl ?_
      -- r5.11 t26 := indexAddr [22] t24 t25 ?7=False
      refine al_gtake (i := 11) rfl (by kernel_rfl) (by kernel_rfl) (by kernel_rfl) rfl rfl rfl (fun _ _ _ h => h) (op_indexN sl_22 rfl rfl (by omega) (by assumption)) rfl ?_
      -- r5.12 t27 := load [70] t26 ?7=False
      refine al_gload (i := 12) rfl (by kernel_rfl) (by kernel_rfl) (by kernel_rfl) rfl rfl rfl (fun _ _ _ h => h) (by exact op_load1 one_70 rfl (fun w hw => hw.gcell hcell)) rfl hT ?_
      refine al_gstep (i := 13) rfl (by kernel_rfl) rfl rfl rfl (op_call_sc hS cf_41 rfl (R01_Ground_c G _ hS.hold _ atoms[k] hat (hlen _ (List.getElem_mem hlt)))) ?_
      clear hS
      rintro _ w ⟨rfl, hS⟩
      have hT := hT.back hS (by first | exact Le.refl _ | assumption) (fun x hx => by try simp only [List.take_succ_cons, List.take_zero, List.mem_cons, List.not_mem_nil, or_false] at hx; (rcases hx with rfl) <;> simp)
      refine ⟨fun _ _ => hT, ?_⟩
      -- r5.14 t29 := not t28 ?7=False
      refine al_gtake (i := 14) rfl (by kernel_rfl) (by kernel_rfl) (by kernel_rfl) rfl rfl rfl (fun _ _ _ h => h) (op_not rfl) rfl ?_
      -- r5.15 t30 := pick  t22 Ctrue t29
      refine al_take (i := 15) rfl (by kernel_rfl) (by kernel_rfl) (by kernel_rfl) rfl (fun _ _ _ h => h) (op_pick_f rfl rfl) rfl ?_
      -- r5.16 t31 := move  t30
      refine al_take (i := 16) rfl (by kernel_rfl) (by kernel_rfl) (by kernel_rfl) rfl (fun _ _ _ h => h) (op_move rfl) rfl ?_
      refine al_split (fun h31 => ?_) (fun h31 => ?_)
      · skip
        try simp only [decide_eq_true_eq, decide_eq_false_iff_not, Bool.not_eq_true', Bool.not_eq_false', Bool.not_eq_eq_eq_not, Bool.not_true, Bool.not_false] at h31
        refine al_gskip (i := 17) rfl (by kernel_rfl) (by kernel_rfl) (by kernel_rfl) rfl rfl rfl rfl (fun _ _ _ h => h) (fun _ => hT) ?_
        refine al_gskip (i := 18) rfl (by kernel_rfl) (by kernel_rfl) (by kernel_rfl) rfl rfl rfl rfl (fun _ _ _ h => h) (fun _ => hT) ?_
        refine al_gskip (i := 19) rfl (by kernel_rfl) (by kernel_rfl) (by kernel_rfl) rfl rfl rfl rfl (fun _ _ _ h => h) (fun _ => hT) ?_
        refine al_gundef (i := 20) rfl (by kernel_rfl) (by kernel_rfl) (by kernel_rfl) rfl rfl rfl (fun _ _ _ h => h) (fun _ => hT) ?_
        refine al_gundef (i := 21) rfl (by kernel_rfl) (by kernel_rfl) (by kernel_rfl) rfl rfl rfl (fun _ _ _ h => h) (fun _ => hT) ?_
        refine al_gundef (i := 22) rfl (by kernel_rfl) (by kernel_rfl) (by kernel_rfl) rfl rfl rfl (fun _ _ _ h => h) (fun _ => hT) ?_
        refine al_gundef (i := 23) rfl (by kernel_rfl) (by kernel_rfl) (by kernel_rfl) rfl rfl rfl (fun _ _ _ h => h) (fun _ => hT) ?_
        refine al_gundef (i := 24) rfl (by kernel_rfl) (by kernel_rfl) (by kernel_rfl) rfl rfl rfl (fun _ _ _ h => h) (fun _ => hT) ?_
        refine al_gundef (i := 25) rfl (by kernel_rfl) (by kernel_rfl) (by kernel_rfl) rfl rfl rfl (fun _ _ _ h => h) (fun _ => hT) ?_
        refine al_gundef (i := 26) rfl (by kernel_rfl) (by kernel_rfl) (by kernel_rfl) rfl rfl rfl (fun _ _ _ h => h) (fun _ => hT) ?_
        refine al_gundef (i := 27) rfl (by kernel_rfl) (by kernel_rfl) (by kernel_rfl) rfl rfl rfl (fun _ _ _ h => h) (fun _ => hT) ?_
        refine al_gundef (i := 28) rfl (by kernel_rfl) (by kernel_rfl) (by kernel_rfl) rfl rfl rfl (fun _ _ _ h => h) (fun _ => hT) ?_
        refine al_gundef (i := 29) rfl (by kernel_rfl) (by kernel_rfl) (by kernel_rfl) rfl rfl rfl (fun _ _ _ h => h) (fun _ => hT) ?_
        refine al_gundef (i := 30) rfl (by kernel_rfl) (by kernel_rfl) (by kernel_rfl) rfl rfl rfl (fun _ _ _ h => h) (fun _ => hT) ?_
        refine al_gundef (i := 31) rfl (by kernel_rfl) (by kernel_rfl) (by kernel_rfl) rfl rfl rfl (fun _ _ _ h => h) (fun _ => hT) ?_
        refine al_gundef (i := 32) rfl (by kernel_rfl) (by kernel_rfl) (by kernel_rfl) rfl rfl rfl (fun _ _ _ h => h) (fun _ => hT) ?_
        refine al_gskip (i := 33) rfl (by kernel_rfl) (by kernel_rfl) (by kernel_rfl) rfl rfl rfl rfl (fun _ _ _ h => h) (fun _ => hT) ?_
        -- r5.34 t49 := pick  t31 Ctrue t48
        refine al_take (i := 34) rfl (by kernel_rfl) (by kernel_rfl) (by kernel_rfl) rfl (fun _ _ _ h => h) (op_pick_t rfl rfl) rfl ?_
        refine al_done (by kernel_rfl) ?_
        refine pq_then ?_
        refine cw_cond_t rfl ?_
        refine cw_seq ?_
        refine cw_region ?_
        -- r6.0 t2 := assign  Cfalse
        refine ol_pure rfl (op_assign rfl) ?_
        refine ol_nil ?_
        refine pq_then ?_
        refine cw_ret ?_
        refine pq_in_ret ?_
        refine pq_ret ?_
        refine pq_ret ?_
        refine pq_in_ret ?_
        refine pq_ret ?_
        refine ret1 rfl rfl ?_
        -- ret1 h12t h22f h31t
        exact hS.sc_b (rightPB_f fun hR => by have := hR.atom.at_ hlt; simp [h31] at this)
      · skip
        try simp only [decide_eq_true_eq, decide_eq_false_iff_not, Bool.not_eq_true', Bool.not_eq_false', Bool.not_eq_eq_eq_not, Bool.not_true, Bool.not_false] at h31
        -- r5.17 t32 := move  t4 ?16=False
        refine al_gtake (i := 17) rfl (by kernel_rfl) (by kernel_rfl) (by kernel_rfl) rfl rfl rfl (fun _ _ _ h => h) (op_move rfl) rfl ?_
        -- r5.18 t33 := gtr t32 C0 ?16=False
        refine al_gtake (i := 18) rfl (by kernel_rfl) (by kernel_rfl) (by kernel_rfl) rfl rfl rfl (fun _ _ _ h => h) (op_gtr rfl rfl) rfl ?_
        -- r5.19 t34 := move  t33 ?16=False
        refine al_gtake (i := 19) rfl (by kernel_rfl) (by kernel_rfl) (by kernel_rfl) rfl rfl rfl (fun _ _ _ h => h) (op_move rfl) rfl ?_
        refine al_split (fun h34 => ?_) (fun h34 => ?_)
        · skip
          try simp only [decide_eq_true_eq, decide_eq_false_iff_not, Bool.not_eq_true', Bool.not_eq_false', Bool.not_eq_eq_eq_not, Bool.not_true, Bool.not_false] at h34
          have hlt1 : k - 1 < atoms.length := by omega
          obtain ⟨_, ob1, d1, hcell1', hat1, hd3, hd4⟩ := h1.slAt hlt1
          have hcell1 : gcell G (elA oA (((k : Int) - 1).toNat * 1)) = some (.slice ob1 atoms[k - 1].length d1) := by rw [show ((k : Int) - 1).toNat = k - 1 from by omega]; exact hcell1'
          -- r5.20 t35 := fieldAddr [25, 0] t1 ?19=True
          refine al_gtake (i := 20) rfl (by kernel_rfl) (by kernel_rfl) (by kernel_rfl) rfl rfl rfl (fun _ _ _ h => h) (op_fieldAddr fld_25_0 rfl) rfl ?_
          -- r5.21 t36 := load [22] t35 ?19=True
          refine al_gload (i := 21) rfl (by kernel_rfl) (by kernel_rfl) (by kernel_rfl) rfl rfl rfl (fun _ _ _ h => h) (by exact op_load1 one_22 rfl (fun w hw => (hw.bcell (i := 0) rfl).trans rfl)) rfl hT ?_
          -- r5.22 t37 := move  t4 ?19=True
          refine al_gtake (i := 22) rfl (by kernel_rfl) (by kernel_rfl) (by kernel_rfl) rfl rfl rfl (fun _ _ _ h => h) (op_move rfl) rfl ?_
          -- r5.23 t38 := sub t37 C1 ?19=True
          refine al_gtake (i := 23) rfl (by kernel_rfl) (by kernel_rfl) (by kernel_rfl) rfl rfl rfl (fun _ _ _ h => h) (op_sub rfl rfl (by omega) (by omega)) rfl ?_
          -- r5.24 t39 := indexAddr [22] t36 t38 ?19=True
          refine al_gtake (i := 24) rfl (by kernel_rfl) (by kernel_rfl) (by kernel_rfl) rfl rfl rfl (fun _ _ _ h => h) (op_indexAddr sl_22 rfl rfl (by omega) (by omega) (by assumption)) rfl ?_
          -- r5.25 t40 := load [70] t39 ?19=True
          refine al_gload (i := 25) rfl (by kernel_rfl) (by kernel_rfl) (by kernel_rfl) rfl rfl rfl (fun _ _ _ h => h) (by exact op_load1 one_70 rfl (fun w hw => hw.gcell hcell1)) rfl hT ?_
          -- r5.26 t41 := fieldAddr [25, 0] t1 ?19=True
          refine al_gtake (i := 26) rfl (by kernel_rfl) (by kernel_rfl) (by kernel_rfl) rfl rfl rfl (fun _ _ _ h => h) (op_fieldAddr fld_25_0 rfl) rfl ?_
          -- r5.27 t42 := load [22] t41 ?19=True
          refine al_gload (i := 27) rfl (by kernel_rfl) (by kernel_rfl) (by kernel_rfl) rfl rfl rfl (fun _ _ _ h => h) (by exact op_load1 one_22 rfl (fun w hw => (hw.bcell (i := 0) rfl).trans rfl)) rfl hT ?_
          -- r5.28 t43 := move  t4 ?19=True
          refine al_gtake (i := 28) rfl (by kernel_rfl) (by kernel_rfl) (by kernel_rfl) rfl rfl rfl (fun _ _ _ h => h) (op_move rfl) rfl ?_
          -- r5.29 t44 := indexAddr [22] t42 t43 ?19=True
          refine al_gtake (i := 29) rfl (by kernel_rfl) (by kernel_rfl) (by kernel_rfl) rfl rfl rfl (fun _ _ _ h => h) (op_indexN sl_22 rfl rfl (by omega) (by assumption)) rfl ?_
          -- r5.30 t45 := load [70] t44 ?19=True
          refine al_gload (i := 30) rfl (by kernel_rfl) (by kernel_rfl) (by kernel_rfl) rfl rfl rfl (fun _ _ _ h => h) (by exact op_load1 one_70 rfl (fun w hw => hw.gcell hcell)) rfl hT ?_
          refine al_gstep (i := 31) rfl (by kernel_rfl) rfl rfl rfl (op_call_sc hS cf_42 rfl (R01_Compare_c G _ hS.hold _ _ atoms[k - 1] atoms[k] hat1 hat)) ?_
          clear hS
          rintro _ w ⟨rfl, hS⟩
          have hT := hT.back hS (by first | exact Le.refl _ | assumption) (fun x hx => by try simp only [List.take_succ_cons, List.take_zero, List.mem_cons, List.not_mem_nil, or_false] at hx; (rcases hx with rfl) <;> simp)
          refine ⟨fun _ _ => hT, ?_⟩
          -- r5.32 t47 := geq t46 C0 ?19=True
          refine al_gtake (i := 32) rfl (by kernel_rfl) (by kernel_rfl) (by kernel_rfl) rfl rfl rfl (fun _ _ _ h => h) (op_geq rfl rfl) rfl ?_
          -- r5.33 t48 := pick  t34 t47 Cfalse ?16=False
          refine al_gtake (i := 33) rfl (by kernel_rfl) (by kernel_rfl) (by kernel_rfl) rfl rfl rfl (fun _ _ _ h => h) (op_pick_t rfl rfl) rfl ?_
          -- r5.34 t49 := pick  t31 Ctrue t48
          refine al_take (i := 34) rfl (by kernel_rfl) (by kernel_rfl) (by kernel_rfl) rfl (fun _ _ _ h => h) (op_pick_f rfl rfl) rfl ?_
          refine al_done (by kernel_rfl) ?_
          refine pq_then ?_
          refine cw_cond rfl (fun h49 => ?_) (fun h49 => ?_)
          · skip
            try simp only [decide_eq_true_eq, decide_eq_false_iff_not, Bool.not_eq_true', Bool.not_eq_false', Bool.not_eq_eq_eq_not, Bool.not_true, Bool.not_false] at h49
            refine cw_seq ?_
            refine cw_region ?_
            -- r6.0 t2 := assign  Cfalse
            refine ol_pure rfl (op_assign rfl) ?_
            refine ol_nil ?_
            refine pq_then ?_
            refine cw_ret ?_
            refine pq_in_ret ?_
            refine pq_ret ?_
            refine pq_ret ?_
            refine pq_in_ret ?_
            refine pq_ret ?_
            refine ret1 rfl rfl ?_
            -- ret1 h12t h22f h31f h34t h49t
            exact hS.sc_b (rightPB_f fun hR => by have := hR.atom.step (by omega) hlt hlt1; simp only [decide_eq_true_eq] at this; omega)
          · skip
            try simp only [decide_eq_true_eq, decide_eq_false_iff_not, Bool.not_eq_true', Bool.not_eq_false', Bool.not_eq_eq_eq_not, Bool.not_true, Bool.not_false] at h49
            refine cw_skip ?_
            refine pq_in_normal ?_
            refine pq_then ?_
            refine cw_region ?_
            -- r4.0 t13 := move  t4
            refine ol_pure rfl (op_move rfl) ?_
            -- r4.1 t14 := add t13 C1
            refine ol_pure rfl (op_add rfl rfl (by omega) (by omega)) ?_
            -- r4.2 t4 := assign  t14
            refine ol_pure rfl (op_assign rfl) ?_
            refine ol_nil ?_
            -- end of round 1 h12t h22f h31f h34t h49f
            refine pq_loop _ _ (by exact ⟨k + 1, rfl, by omega, rfl, hp.succ hlt (by rw [h22, h31]; rfl) (.inr ⟨hlt1, decide_eq_true (by omega)⟩), hS⟩) ((Sub.cons rfl (Sub.cons rfl (Sub.cons rfl Sub.nil)))) (by omega)
        · skip
          try simp only [decide_eq_true_eq, decide_eq_false_iff_not, Bool.not_eq_true', Bool.not_eq_false', Bool.not_eq_eq_eq_not, Bool.not_true, Bool.not_false] at h34
          refine al_gskip (i := 20) rfl (by kernel_rfl) (by kernel_rfl) (by kernel_rfl) rfl rfl rfl rfl (fun _ _ _ h => h) (fun _ => hT) ?_
          refine al_gskip (i := 21) rfl (by kernel_rfl) (by kernel_rfl) (by kernel_rfl) rfl rfl rfl rfl (fun _ _ _ h => h) (fun _ => hT) ?_
          refine al_gskip (i := 22) rfl (by kernel_rfl) (by kernel_rfl) (by kernel_rfl) rfl rfl rfl rfl (fun _ _ _ h => h) (fun _ => hT) ?_
          refine al_gskip (i := 23) rfl (by kernel_rfl) (by kernel_rfl) (by kernel_rfl) rfl rfl rfl rfl (fun _ _ _ h => h) (fun _ => hT) ?_
          refine al_gskip (i := 24) rfl (by kernel_rfl) (by kernel_rfl) (by kernel_rfl) rfl rfl rfl rfl (fun _ _ _ h => h) (fun _ => hT) ?_
          refine al_gskip (i := 25) rfl (by kernel_rfl) (by kernel_rfl) (by kernel_rfl) rfl rfl rfl rfl (fun _ _ _ h => h) (fun _ => hT) ?_
          refine al_gskip (i := 26) rfl (by kernel_rfl) (by kernel_rfl) (by kernel_rfl) rfl rfl rfl rfl (fun _ _ _ h => h) (fun _ => hT) ?_
          refine al_gskip (i := 27) rfl (by kernel_rfl) (by kernel_rfl) (by kernel_rfl) rfl rfl rfl rfl (fun _ _ _ h => h) (fun _ => hT) ?_
          refine al_gskip (i := 28) rfl (by kernel_rfl) (by kernel_rfl) (by kernel_rfl) rfl rfl rfl rfl (fun _ _ _ h => h) (fun _ => hT) ?_
          refine al_gskip (i := 29) rfl (by kernel_rfl) (by kernel_rfl) (by kernel_rfl) rfl rfl rfl rfl (fun _ _ _ h => h) (fun _ => hT) ?_
          refine al_gskip (i := 30) rfl (by kernel_rfl) (by kernel_rfl) (by kernel_rfl) rfl rfl rfl rfl (fun _ _ _ h => h) (fun _ => hT) ?_
          refine al_gskip (i := 31) rfl (by kernel_rfl) (by kernel_rfl) (by kernel_rfl) rfl rfl rfl rfl (fun _ _ _ h => h) (fun _ => hT) ?_
          refine al_gskip (i := 32) rfl (by kernel_rfl) (by kernel_rfl) (by kernel_rfl) rfl rfl rfl rfl (fun _ _ _ h => h) (fun _ => hT) ?_
          -- r5.33 t48 := pick  t34 t47 Cfalse ?16=False
          refine al_gtake (i := 33) rfl (by kernel_rfl) (by kernel_rfl) (by kernel_rfl) rfl rfl rfl (fun _ _ _ h => h) (op_pick_f rfl rfl) rfl ?_
          -- r5.34 t49 := pick  t31 Ctrue t48
          refine al_take (i := 34) rfl (by kernel_rfl) (by kernel_rfl) (by kernel_rfl) rfl (fun _ _ _ h => h) (op_pick_f rfl rfl) rfl ?_
          refine al_done (by kernel_rfl) ?_
          refine pq_then ?_
          refine cw_cond_f rfl ?_
          refine cw_skip ?_
          refine pq_in_normal ?_
          refine pq_then ?_
          refine cw_region ?_
          -- r4.0 t13 := move  t4
          refine ol_pure rfl (op_move rfl) ?_
          -- r4.1 t14 := add t13 C1
          refine ol_pure rfl (op_add rfl rfl (by omega) (by omega)) ?_
          -- r4.2 t4 := assign  t14
          refine ol_pure rfl (op_assign rfl) ?_
          refine ol_nil ?_
          -- end of round 1 h12t h22f h31f h34f
          refine pq_loop _ _ (by exact ⟨k + 1, rfl, by omega, rfl, hp.succ hlt (by rw [h22, h31]; rfl) (.inl (by omega)), hS⟩) ((Sub.cons rfl (Sub.cons rfl (Sub.cons rfl Sub.nil)))) (by omega)
  · skip
    try simp only [decide_eq_true_eq, decide_eq_false_iff_not, Bool.not_eq_true', Bool.not_eq_false', Bool.not_eq_eq_eq_not, Bool.not_true, Bool.not_false] at h12
    have hA := hp.all (by omega)
    clear hp hk h12
    refine cw_exit ?_
    refine pq_exit ?_
    refine pq_exit ?_
    refine pq_in_exit ?_
    refine pq_then ?_
    refine cw_seq ?_
    refine cw_seq ?_
    refine cw_region ?_
    -- r7.0 t5 := assign  C0
    refine ol_pure rfl (op_assign rfl) ?_
    refine ol_nil ?_
    refine pq_then ?_
    refine cw_block ?_
    refine cw_loop (fun e w n => ∃ k : Nat, e = [(1, .pointer (some ⟨b1, 0, none⟩)), (3, .int .i64 (atoms.length : Nat)), (5, .int .i64 (k : Nat))] ∧ k ≤ rs.length ∧ n = rs.length - k ∧ allTo (ruleR atoms.length) (fun a b => decide (orderI a b < 0)) rs k ∧ SS G w0 G [.blk b1 25 [.slice oA atoms.length cA, .slice oR rs.length cR]] w) _ _ (by exact ⟨0, rfl, Nat.zero_le _, rfl, .zero, hS⟩) ((Sub.cons rfl (Sub.cons rfl (Sub.cons rfl Sub.nil)))) ?_
    clear hS
    rintro e w n ⟨k, rfl, hk2, rfl, hp2, hS⟩
    refine cw_seq ?_
    refine cw_seq ?_
    refine cw_region ?_
    -- r8.0 t50 := move  t5
    refine ol_pure rfl (op_move rfl) ?_
    -- r8.1 t51 := fieldAddr [25, 1] t1
    refine ol_pure rfl (op_fieldAddr fld_25_1 rfl) ?_
    -- r8.2 t52 := load [23] t51
    refine ol_load rfl (op_load1 one_23 rfl (fun w hw => (hw.bcell (i := 0) rfl).trans rfl)) hS ?_
    -- r8.3 t53 := call len t52
    refine ol_pure rfl (op_len sl_23 rfl rfl) ?_
    -- r8.4 t54 := lss t50 t53
    refine ol_pure rfl (op_lss rfl rfl) ?_
    refine ol_nil ?_
    refine pq_then ?_
    refine cw_cond rfl (fun h54 => ?_) (fun h54 => ?_)
    · skip
      try simp only [decide_eq_true_eq, decide_eq_false_iff_not, Bool.not_eq_true', Bool.not_eq_false', Bool.not_eq_eq_eq_not, Bool.not_true, Bool.not_false] at h54
      have hlt : k < rs.length := by omega
      obtain ⟨hoa, cs, hcl, ⟨p, q, rfl, hp, hq, hhd⟩, hcells⟩ := h2.el hlt
      obtain ⟨op, cp, hpe, hlp, hmp⟩ := hp.elim
      obtain ⟨oq, cq, hqe, hlq, hmq⟩ := hq.elim
      subst hpe
      subst hqe
      refine cw_skip ?_
      refine pq_then ?_
      refine cw_seq ?_
      refine cw_block ?_
      refine cw_seq ?_
      refine cw_region ?_
      -- r10.0 t57 := fieldAddr [25, 1] t1
      refine ol_pure rfl (op_fieldAddr fld_25_1 rfl) ?_
      -- r10.1 t58 := load [23] t57
      refine ol_load rfl (op_load1 one_23 rfl (fun w hw => (hw.bcell (i := 0) rfl).trans rfl)) hS ?_
      -- r10.2 t59 := move  t5
      refine ol_pure rfl (op_move rfl) ?_
      -- r10.3 t60 := indexAddr [23] t58 t59
      refine ol_pure rfl (op_indexN sl_23 rfl rfl (by omega) (by assumption)) ?_
      -- r10.4 t61 := load [48] t60
      refine ol_load rfl (op_loadN agg_48 rfl (by rfl) (fun w hw k u hk => hw.gcell (hcells k u hk))) hS ?_
      -- r10.5 t6 := alloc [48] 
      refine ol_step rfl (op_alloc hS el_48 rfl) ?_
      clear hS
      rintro _ w ⟨b6, rfl, hS⟩
      -- r10.6 _ := store [48] t6 t61
      refine ol_step0  (op_storeN (j := 0) hS sz_48 rfl rfl rfl rfl rfl (by simp [Value.oneCell'])) ?_
      clear hS
      rintro _ w hS; (try simp only [List.nil_append, List.cons_append, List.set] at hS)
      refine ol_nil ?_
      refine pq_then ?_
      refine cw_seq ?_
      refine al_start' hS (hS.take 2) (by kernel_rfl) rfl (fun w hS hT => ?_)
      -- r11.0 t62 := fieldAddr [48, 0] t6
      refine al_take (i := 0) rfl (by kernel_rfl) (by kernel_rfl) (by kernel_rfl) rfl (fun _ _ _ h => h) (op_fieldAddr fld_48_0 rfl) rfl ?_
      -- r11.1 t63 := load [3] t62
      refine al_load (i := 1) rfl (by kernel_rfl) (by kernel_rfl) (by kernel_rfl) rfl (fun _ _ _ h => h) (by exact op_load1 one_3 rfl (fun w hw => (hw.bcell (i := 0) rfl).trans rfl)) rfl hT ?_
      -- r11.2 t64 := lss t63 C0
      refine al_take (i := 2) rfl (by kernel_rfl) (by kernel_rfl) (by kernel_rfl) rfl (fun _ _ _ h => h) (op_lss rfl rfl) rfl ?_
      -- r11.3 t65 := move  t64
      refine al_take (i := 3) rfl (by kernel_rfl) (by kernel_rfl) (by kernel_rfl) rfl (fun _ _ _ h => h) (op_move rfl) rfl ?_
      refine al_split (fun h65 => ?_) (fun h65 => ?_)
      · skip
        try simp only [decide_eq_true_eq, decide_eq_false_iff_not, Bool.not_eq_true', Bool.not_eq_false', Bool.not_eq_eq_eq_not, Bool.not_true, Bool.not_false] at h65
        refine al_gskip (i := 4) rfl (by kernel_rfl) (by kernel_rfl) (by kernel_rfl) rfl rfl rfl rfl (fun _ _ _ h => h) (fun _ => hT) ?_
        refine al_gskip (i := 5) rfl (by kernel_rfl) (by kernel_rfl) (by kernel_rfl) rfl rfl rfl rfl (fun _ _ _ h => h) (fun _ => hT) ?_
        refine al_gskip (i := 6) rfl (by kernel_rfl) (by kernel_rfl) (by kernel_rfl) rfl rfl rfl rfl (fun _ _ _ h => h) (fun _ => hT) ?_
        refine al_gskip (i := 7) rfl (by kernel_rfl) (by kernel_rfl) (by kernel_rfl) rfl rfl rfl rfl (fun _ _ _ h => h) (fun _ => hT) ?_
        -- r11.8 t70 := pick  t65 Ctrue t69
        refine al_take (i := 8) rfl (by kernel_rfl) (by kernel_rfl) (by kernel_rfl) rfl (fun _ _ _ h => h) (op_pick_t rfl rfl) rfl ?_
        -- r11.9 t71 := move  t70
        refine al_take (i := 9) rfl (by kernel_rfl) (by kernel_rfl) (by kernel_rfl) rfl (fun _ _ _ h => h) (op_move rfl) rfl ?_
        refine al_gskip (i := 10) rfl (by kernel_rfl) (by kernel_rfl) (by kernel_rfl) rfl rfl rfl rfl (fun _ _ _ h => h) (fun _ => hT) ?_
        refine al_gskip (i := 11) rfl (by kernel_rfl) (by kernel_rfl) (by kernel_rfl) rfl rfl rfl rfl (fun _ _ _ h => h) (fun _ => hT) ?_
        refine al_gskip (i := 12) rfl (by kernel_rfl) (by kernel_rfl) (by kernel_rfl) rfl rfl rfl rfl (fun _ _ _ h => h) (fun _ => hT) ?_
        refine al_gskip (i := 13) rfl (by kernel_rfl) (by kernel_rfl) (by kernel_rfl) rfl rfl rfl rfl (fun _ _ _ h => h) (fun _ => hT) ?_
        refine al_gskip (i := 14) rfl (by kernel_rfl) (by kernel_rfl) (by kernel_rfl) rfl rfl rfl rfl (fun _ _ _ h => h) (fun _ => hT) ?_
        -- r11.15 t77 := pick  t71 Ctrue t76
        refine al_take (i := 15) rfl (by kernel_rfl) (by kernel_rfl) (by kernel_rfl) rfl (fun _ _ _ h => h) (op_pick_t rfl rfl) rfl ?_
        -- r11.16 t78 := move  t77
        refine al_take (i := 16) rfl (by kernel_rfl) (by kernel_rfl) (by kernel_rfl) rfl (fun _ _ _ h => h) (op_move rfl) rfl ?_
        refine al_gskip (i := 17) rfl (by kernel_rfl) (by kernel_rfl) (by kernel_rfl) rfl rfl rfl rfl (fun _ _ _ h => h) (fun _ => hT) ?_
        refine al_gskip (i := 18) rfl (by kernel_rfl) (by kernel_rfl) (by kernel_rfl) rfl rfl rfl rfl (fun _ _ _ h => h) (fun _ => hT) ?_
        refine al_gskip (i := 19) rfl (by kernel_rfl) (by kernel_rfl) (by kernel_rfl) rfl rfl rfl rfl (fun _ _ _ h => h) (fun _ => hT) ?_
        refine al_gskip (i := 20) rfl (by kernel_rfl) (by kernel_rfl) (by kernel_rfl) rfl rfl rfl rfl (fun _ _ _ h => h) (fun _ => hT) ?_
        refine al_gskip (i := 21) rfl (by kernel_rfl) (by kernel_rfl) (by kernel_rfl) rfl rfl rfl rfl (fun _ _ _ h => h) (fun _ => hT) ?_
        -- r11.22 t84 := pick  t78 Ctrue t83
        refine al_take (i := 22) rfl (by kernel_rfl) (by kernel_rfl) (by kernel_rfl) rfl (fun _ _ _ h => h) (op_pick_t rfl rfl) rfl ?_
        -- r11.23 t85 := move  t84
        refine al_take (i := 23) rfl (by kernel_rfl) (by kernel_rfl) (by kernel_rfl) rfl (fun _ _ _ h => h) (op_move rfl) rfl ?_
        refine al_gskip (i := 24) rfl (by kernel_rfl) (by kernel_rfl) (by kernel_rfl) rfl rfl rfl rfl (fun _ _ _ h => h) (fun _ => hT) ?_
        refine al_gskip (i := 25) rfl (by kernel_rfl) (by kernel_rfl) (by kernel_rfl) rfl rfl rfl rfl (fun _ _ _ h => h) (fun _ => hT) ?_
        refine al_gskip (i := 26) rfl (by kernel_rfl) (by kernel_rfl) (by kernel_rfl) rfl rfl rfl rfl (fun _ _ _ h => h) (fun _ => hT) ?_
        refine al_gundef (i := 27) rfl (by kernel_rfl) (by kernel_rfl) (by kernel_rfl) rfl rfl rfl (fun _ _ _ h => h) (fun _ => hT) ?_
        refine al_gundef (i := 28) rfl (by kernel_rfl) (by kernel_rfl) (by kernel_rfl) rfl rfl rfl (fun _ _ _ h => h) (fun _ => hT) ?_
        refine al_gundef (i := 29) rfl (by kernel_rfl) (by kernel_rfl) (by kernel_rfl) rfl rfl rfl (fun _ _ _ h => h) (fun _ => hT) ?_
        refine al_gundef (i := 30) rfl (by kernel_rfl) (by kernel_rfl) (by kernel_rfl) rfl rfl rfl (fun _ _ _ h => h) (fun _ => hT) ?_
        refine al_gundef (i := 31) rfl (by kernel_rfl) (by kernel_rfl) (by kernel_rfl) rfl rfl rfl (fun _ _ _ h => h) (fun _ => hT) ?_
        refine al_gundef (i := 32) rfl (by kernel_rfl) (by kernel_rfl) (by kernel_rfl) rfl rfl rfl (fun _ _ _ h => h) (fun _ => hT) ?_
        refine al_gundef (i := 33) rfl (by kernel_rfl) (by kernel_rfl) (by kernel_rfl) rfl rfl rfl (fun _ _ _ h => h) (fun _ => hT) ?_
        refine al_gundef (i := 34) rfl (by kernel_rfl) (by kernel_rfl) (by kernel_rfl) rfl rfl rfl (fun _ _ _ h => h) (fun _ => hT) ?_
        refine al_gundef (i := 35) rfl (by kernel_rfl) (by kernel_rfl) (by kernel_rfl) rfl rfl rfl (fun _ _ _ h => h) (fun _ => hT) ?_
        refine al_gskip (i := 36) rfl (by kernel_rfl) (by kernel_rfl) (by kernel_rfl) rfl rfl rfl rfl (fun _ _ _ h => h) (fun _ => hT) ?_
        -- r11.37 t99 := pick  t85 Ctrue t98
        refine al_take (i := 37) rfl (by kernel_rfl) (by kernel_rfl) (by kernel_rfl) rfl (fun _ _ _ h => h) (op_pick_t rfl rfl) rfl ?_
        refine al_done (by kernel_rfl) ?_
        refine pq_then ?_
        refine cw_cond_t rfl ?_
        refine cw_seq ?_
        refine cw_region ?_
        -- r12.0 t2 := assign  Cfalse
        refine ol_pure rfl (op_assign rfl) ?_
        refine ol_nil ?_
        refine pq_then ?_
        refine cw_ret ?_
        refine pq_in_ret ?_
        refine pq_ret ?_
        refine pq_ret ?_
        refine pq_in_ret ?_
        refine pq_ret ?_
        refine ret1 rfl rfl ?_
        -- ret2 h12f h54t h65t
        exact hS.sc_b (rightPB_f fun hR => by have := hR.rule.at_ hlt; simp only [ruleR, Bool.and_eq_true, decide_eq_true_eq] at this; omega)
      · skip
        try simp only [decide_eq_true_eq, decide_eq_false_iff_not, Bool.not_eq_true', Bool.not_eq_false', Bool.not_eq_eq_eq_not, Bool.not_true, Bool.not_false] at h65
        -- r11.4 t66 := fieldAddr [48, 0] t6 ?3=False
        refine al_gtake (i := 4) rfl (by kernel_rfl) (by kernel_rfl) (by kernel_rfl) rfl rfl rfl (fun _ _ _ h => h) (op_fieldAddr fld_48_0 rfl) rfl ?_
        -- r11.5 t67 := load [3] t66 ?3=False
        refine al_gload (i := 5) rfl (by kernel_rfl) (by kernel_rfl) (by kernel_rfl) rfl rfl rfl (fun _ _ _ h => h) (by exact op_load1 one_3 rfl (fun w hw => (hw.bcell (i := 0) rfl).trans rfl)) rfl hT ?_
        -- r11.6 t68 := move  t3 ?3=False
        refine al_gtake (i := 6) rfl (by kernel_rfl) (by kernel_rfl) (by kernel_rfl) rfl rfl rfl (fun _ _ _ h => h) (op_move rfl) rfl ?_
        -- r11.7 t69 := geq t67 t68 ?3=False
        refine al_gtake (i := 7) rfl (by kernel_rfl) (by kernel_rfl) (by kernel_rfl) rfl rfl rfl (fun _ _ _ h => h) (op_geq rfl rfl) rfl ?_
        -- r11.8 t70 := pick  t65 Ctrue t69
        refine al_take (i := 8) rfl (by kernel_rfl) (by kernel_rfl) (by kernel_rfl) rfl (fun _ _ _ h => h) (op_pick_f rfl rfl) rfl ?_
        -- r11.9 t71 := move  t70
        refine al_take (i := 9) rfl (by kernel_rfl) (by kernel_rfl) (by kernel_rfl) rfl (fun _ _ _ h => h) (op_move rfl) rfl ?_
        refine al_split (fun h71 => ?_) (fun h71 => ?_)
        · skip
          try simp only [decide_eq_true_eq, decide_eq_false_iff_not, Bool.not_eq_true', Bool.not_eq_false', Bool.not_eq_eq_eq_not, Bool.not_true, Bool.not_false] at h71
          refine al_gskip (i := 10) rfl (by kernel_rfl) (by kernel_rfl) (by kernel_rfl) rfl rfl rfl rfl (fun _ _ _ h => h) (fun _ => hT) ?_
          refine al_gskip (i := 11) rfl (by kernel_rfl) (by kernel_rfl) (by kernel_rfl) rfl rfl rfl rfl (fun _ _ _ h => h) (fun _ => hT) ?_
          refine al_gskip (i := 12) rfl (by kernel_rfl) (by kernel_rfl) (by kernel_rfl) rfl rfl rfl rfl (fun _ _ _ h => h) (fun _ => hT) ?_
          refine al_gskip (i := 13) rfl (by kernel_rfl) (by kernel_rfl) (by kernel_rfl) rfl rfl rfl rfl (fun _ _ _ h => h) (fun _ => hT) ?_
          refine al_gskip (i := 14) rfl (by kernel_rfl) (by kernel_rfl) (by kernel_rfl) rfl rfl rfl rfl (fun _ _ _ h => h) (fun _ => hT) ?_
          -- r11.15 t77 := pick  t71 Ctrue t76
          refine al_take (i := 15) rfl (by kernel_rfl) (by kernel_rfl) (by kernel_rfl) rfl (fun _ _ _ h => h) (op_pick_t rfl rfl) rfl ?_
          -- r11.16 t78 := move  t77
          refine al_take (i := 16) rfl (by kernel_rfl) (by kernel_rfl) (by kernel_rfl) rfl (fun _ _ _ h => h) (op_move rfl) rfl ?_
          refine al_gskip (i := 17) rfl (by kernel_rfl) (by kernel_rfl) (by kernel_rfl) rfl rfl rfl rfl (fun _ _ _ h => h) (fun _ => hT) ?_
          refine al_gskip (i := 18) rfl (by kernel_rfl) (by kernel_rfl) (by kernel_rfl) rfl rfl rfl rfl (fun _ _ _ h => h) (fun _ => hT) ?_
          refine al_gskip (i := 19) rfl (by kernel_rfl) (by kernel_rfl) (by kernel_rfl) rfl rfl rfl rfl (fun _ _ _ h => h) (fun _ => hT) ?_
          refine al_gskip (i := 20) rfl (by kernel_rfl) (by kernel_rfl) (by kernel_rfl) rfl rfl rfl rfl (fun _ _ _ h => h) (fun _ => hT) ?_
          refine al_gskip (i := 21) rfl (by kernel_rfl) (by kernel_rfl) (by kernel_rfl) rfl rfl rfl rfl (fun _ _ _ h => h) (fun _ => hT) ?_
          -- r11.22 t84 := pick  t78 Ctrue t83
          refine al_take (i := 22) rfl (by kernel_rfl) (by kernel_rfl) (by kernel_rfl) rfl (fun _ _ _ h => h) (op_pick_t rfl rfl) rfl ?_
          -- r11.23 t85 := move  t84
          refine al_take (i := 23) rfl (by kernel_rfl) (by kernel_rfl) (by kernel_rfl) rfl (fun _ _ _ h => h) (op_move rfl) rfl ?_
          refine al_gskip (i := 24) rfl (by kernel_rfl) (by kernel_rfl) (by kernel_rfl) rfl rfl rfl rfl (fun _ _ _ h => h) (fun _ => hT) ?_
          refine al_gskip (i := 25) rfl (by kernel_rfl) (by kernel_rfl) (by kernel_rfl) rfl rfl rfl rfl (fun _ _ _ h => h) (fun _ => hT) ?_
          refine al_gskip (i := 26) rfl (by kernel_rfl) (by kernel_rfl) (by kernel_rfl) rfl rfl rfl rfl (fun _ _ _ h => h) (fun _ => hT) ?_
          refine al_gundef (i := 27) rfl (by kernel_rfl) (by kernel_rfl) (by kernel_rfl) rfl rfl rfl (fun _ _ _ h => h) (fun _ => hT) ?_
          refine al_gundef (i := 28) rfl (by kernel_rfl) (by kernel_rfl) (by kernel_rfl) rfl rfl rfl (fun _ _ _ h => h) (fun _ => hT) ?_
          refine al_gundef (i := 29) rfl (by kernel_rfl) (by kernel_rfl) (by kernel_rfl) rfl rfl rfl (fun _ _ _ h => h) (fun _ => hT) ?_
          refine al_gundef (i := 30) rfl (by kernel_rfl) (by kernel_rfl) (by kernel_rfl) rfl rfl rfl (fun _ _ _ h => h) (fun _ => hT) ?_
          refine al_gundef (i := 31) rfl (by kernel_rfl) (by kernel_rfl) (by kernel_rfl) rfl rfl rfl (fun _ _ _ h => h) (fun _ => hT) ?_
          refine al_gundef (i := 32) rfl (by kernel_rfl) (by kernel_rfl) (by kernel_rfl) rfl rfl rfl (fun _ _ _ h => h) (fun _ => hT) ?_
          refine al_gundef (i := 33) rfl (by kernel_rfl) (by kernel_rfl) (by kernel_rfl) rfl rfl rfl (fun _ _ _ h => h) (fun _ => hT) ?_
          refine al_gundef (i := 34) rfl (by kernel_rfl) (by kernel_rfl) (by kernel_rfl) rfl rfl rfl (fun _ _ _ h => h) (fun _ => hT) ?_
          refine al_gundef (i := 35) rfl (by kernel_rfl) (by kernel_rfl) (by kernel_rfl) rfl rfl rfl (fun _ _ _ h => h) (fun _ => hT) ?_
          refine al_gskip (i := 36) rfl (by kernel_rfl) (by kernel_rfl) (by kernel_rfl) rfl rfl rfl rfl (fun _ _ _ h => h) (fun _ => hT) ?_
          -- r11.37 t99 := pick  t85 Ctrue t98
          refine al_take (i := 37) rfl (by kernel_rfl) (by kernel_rfl) (by kernel_rfl) rfl (fun _ _ _ h => h) (op_pick_t rfl rfl) rfl ?_
          refine al_done (by kernel_rfl) ?_
          refine pq_then ?_
          refine cw_cond_t rfl ?_
          refine cw_seq ?_
          refine cw_region ?_
          -- r12.0 t2 := assign  Cfalse
          refine ol_pure rfl (op_assign rfl) ?_
          refine ol_nil ?_
          refine pq_then ?_
          refine cw_ret ?_
          refine pq_in_ret ?_
          refine pq_ret ?_
          refine pq_ret ?_
          refine pq_in_ret ?_
          refine pq_ret ?_
          refine ret1 rfl rfl ?_
          -- ret2 h12f h54t h65f h71t
          exact hS.sc_b (rightPB_f fun hR => by have := hR.rule.at_ hlt; simp only [ruleR, Bool.and_eq_true, decide_eq_true_eq] at this; omega)
        · skip
          try simp only [decide_eq_true_eq, decide_eq_false_iff_not, Bool.not_eq_true', Bool.not_eq_false', Bool.not_eq_eq_eq_not, Bool.not_true, Bool.not_false] at h71
          -- r11.10 t72 := fieldAddr [48, 1] t6 ?9=False
          refine al_gtake (i := 10) rfl (by kernel_rfl) (by kernel_rfl) (by kernel_rfl) rfl rfl rfl (fun _ _ _ h => h) (op_fieldAddr fld_48_1 rfl) rfl ?_
          -- r11.11 t73 := load [29] t72 ?9=False
          refine al_gload (i := 11) rfl (by kernel_rfl) (by kernel_rfl) (by kernel_rfl) rfl rfl rfl (fun _ _ _ h => h) (by exact op_load1 one_29 rfl (fun w hw => (hw.bcell (i := 0) rfl).trans rfl)) rfl hT ?_
          -- r11.12 t74 := move  t3 ?9=False
          refine al_gtake (i := 12) rfl (by kernel_rfl) (by kernel_rfl) (by kernel_rfl) rfl rfl rfl (fun _ _ _ h => h) (op_move rfl) rfl ?_
          refine al_gstep (i := 13) rfl (by kernel_rfl) rfl rfl rfl (op_call_sc hS cf_43 rfl (R16_set_c G _ hS.hold _ rs[k].pos atoms.length hp)) ?_
          clear hS
          rintro _ w ⟨rfl, hS⟩
          have hT := hT.back hS (by first | exact Le.refl _ | assumption) (fun x hx => by try simp only [List.take_succ_cons, List.take_zero, List.mem_cons, List.not_mem_nil, or_false] at hx; (rcases hx with rfl | rfl) <;> simp)
          refine ⟨fun _ _ => hT, ?_⟩
          -- r11.14 t76 := not t75 ?9=False
          refine al_gtake (i := 14) rfl (by kernel_rfl) (by kernel_rfl) (by kernel_rfl) rfl rfl rfl (fun _ _ _ h => h) (op_not rfl) rfl ?_
          -- r11.15 t77 := pick  t71 Ctrue t76
          refine al_take (i := 15) rfl (by kernel_rfl) (by kernel_rfl) (by kernel_rfl) rfl (fun _ _ _ h => h) (op_pick_f rfl rfl) rfl ?_
          -- r11.16 t78 := move  t77
          refine al_take (i := 16) rfl (by kernel_rfl) (by kernel_rfl) (by kernel_rfl) rfl (fun _ _ _ h => h) (op_move rfl) rfl ?_
          refine al_split (fun h78 => ?_) (fun h78 => ?_)
          · skip
            try simp only [decide_eq_true_eq, decide_eq_false_iff_not, Bool.not_eq_true', Bool.not_eq_false', Bool.not_eq_eq_eq_not, Bool.not_true, Bool.not_false] at h78
            refine al_gskip (i := 17) rfl (by kernel_rfl) (by kernel_rfl) (by kernel_rfl) rfl rfl rfl rfl (fun _ _ _ h => h) (fun _ => hT) ?_
            refine al_gskip (i := 18) rfl (by kernel_rfl) (by kernel_rfl) (by kernel_rfl) rfl rfl rfl rfl (fun _ _ _ h => h) (fun _ => hT) ?_
            refine al_gskip (i := 19) rfl (by kernel_rfl) (by kernel_rfl) (by kernel_rfl) rfl rfl rfl rfl (fun _ _ _ h => h) (fun _ => hT) ?_
            refine al_gskip (i := 20) rfl (by kernel_rfl) (by kernel_rfl) (by kernel_rfl) rfl rfl rfl rfl (fun _ _ _ h => h) (fun _ => hT) ?_
            refine al_gskip (i := 21) rfl (by kernel_rfl) (by kernel_rfl) (by kernel_rfl) rfl rfl rfl rfl (fun _ _ _ h => h) (fun _ => hT) ?_
            -- r11.22 t84 := pick  t78 Ctrue t83
            refine al_take (i := 22) rfl (by kernel_rfl) (by kernel_rfl) (by kernel_rfl) rfl (fun _ _ _ h => h) (op_pick_t rfl rfl) rfl ?_
            -- r11.23 t85 := move  t84
            refine al_take (i := 23) rfl (by kernel_rfl) (by kernel_rfl) (by kernel_rfl) rfl (fun _ _ _ h => h) (op_move rfl) rfl ?_
            refine al_gskip (i := 24) rfl (by kernel_rfl) (by kernel_rfl) (by kernel_rfl) rfl rfl rfl rfl (fun _ _ _ h => h) (fun _ => hT) ?_
            refine al_gskip (i := 25) rfl (by kernel_rfl) (by kernel_rfl) (by kernel_rfl) rfl rfl rfl rfl (fun _ _ _ h => h) (fun _ => hT) ?_
            refine al_gskip (i := 26) rfl (by kernel_rfl) (by kernel_rfl) (by kernel_rfl) rfl rfl rfl rfl (fun _ _ _ h => h) (fun _ => hT) ?_
            refine al_gundef (i := 27) rfl (by kernel_rfl) (by kernel_rfl) (by kernel_rfl) rfl rfl rfl (fun _ _ _ h => h) (fun _ => hT) ?_
            refine al_gundef (i := 28) rfl (by kernel_rfl) (by kernel_rfl) (by kernel_rfl) rfl rfl rfl (fun _ _ _ h => h) (fun _ => hT) ?_
            refine al_gundef (i := 29) rfl (by kernel_rfl) (by kernel_rfl) (by kernel_rfl) rfl rfl rfl (fun _ _ _ h => h) (fun _ => hT) ?_
            refine al_gundef (i := 30) rfl (by kernel_rfl) (by kernel_rfl) (by kernel_rfl) rfl rfl rfl (fun _ _ _ h => h) (fun _ => hT) ?_
            refine al_gundef (i := 31) rfl (by kernel_rfl) (by kernel_rfl) (by kernel_rfl) rfl rfl rfl (fun _ _ _ h => h) (fun _ => hT) ?_
            refine al_gundef (i := 32) rfl (by kernel_rfl) (by kernel_rfl) (by kernel_rfl) rfl rfl rfl (fun _ _ _ h => h) (fun _ => hT) ?_
            refine al_gundef (i := 33) rfl (by kernel_rfl) (by kernel_rfl) (by kernel_rfl) rfl rfl rfl (fun _ _ _ h => h) (fun _ => hT) ?_
            refine al_gundef (i := 34) rfl (by kernel_rfl) (by kernel_rfl) (by kernel_rfl) rfl rfl rfl (fun _ _ _ h => h) (fun _ => hT) ?_
            refine al_gundef (i := 35) rfl (by kernel_rfl) (by kernel_rfl) (by kernel_rfl) rfl rfl rfl (fun _ _ _ h => h) (fun _ => hT) ?_
            refine al_gskip (i := 36) rfl (by kernel_rfl) (by kernel_rfl) (by kernel_rfl) rfl rfl rfl rfl (fun _ _ _ h => h) (fun _ => hT) ?_
            -- r11.37 t99 := pick  t85 Ctrue t98
            refine al_take (i := 37) rfl (by kernel_rfl) (by kernel_rfl) (by kernel_rfl) rfl (fun _ _ _ h => h) (op_pick_t rfl rfl) rfl ?_
            refine al_done (by kernel_rfl) ?_
            refine pq_then ?_
            refine cw_cond_t rfl ?_
            refine cw_seq ?_
            refine cw_region ?_
            -- r12.0 t2 := assign  Cfalse
            refine ol_pure rfl (op_assign rfl) ?_
            refine ol_nil ?_
            refine pq_then ?_
            refine cw_ret ?_
            refine pq_in_ret ?_
            refine pq_ret ?_
            refine pq_ret ?_
            refine pq_in_ret ?_
            refine pq_ret ?_
            refine ret1 rfl rfl ?_
            -- ret2 h12f h54t h65f h71f h78t
            exact hS.sc_b (rightPB_f fun hR => by have := hR.rule.at_ hlt; simp [ruleR, h78] at this)
          · skip
            try simp only [decide_eq_true_eq, decide_eq_false_iff_not, Bool.not_eq_true', Bool.not_eq_false', Bool.not_eq_eq_eq_not, Bool.not_true, Bool.not_false] at h78
            -- r11.17 t79 := fieldAddr [48, 2] t6 ?16=False
            refine al_gtake (i := 17) rfl (by kernel_rfl) (by kernel_rfl) (by kernel_rfl) rfl rfl rfl (fun _ _ _ h => h) (op_fieldAddr fld_48_2 rfl) rfl ?_
            -- r11.18 t80 := load [29] t79 ?16=False
            refine al_gload (i := 18) rfl (by kernel_rfl) (by kernel_rfl) (by kernel_rfl) rfl rfl rfl (fun _ _ _ h => h) (by exact op_load1 one_29 rfl (fun w hw => (hw.bcell (i := 0) rfl).trans rfl)) rfl hT ?_
            -- r11.19 t81 := move  t3 ?16=False
            refine al_gtake (i := 19) rfl (by kernel_rfl) (by kernel_rfl) (by kernel_rfl) rfl rfl rfl (fun _ _ _ h => h) (op_move rfl) rfl ?_
            refine al_gstep (i := 20) rfl (by kernel_rfl) rfl rfl rfl (op_call_sc hS cf_43 rfl (R16_set_c G _ hS.hold _ rs[k].neg atoms.length hq)) ?_
            clear hS
            rintro _ w ⟨rfl, hS⟩
            have hT := hT.back hS (by first | exact Le.refl _ | assumption) (fun x hx => by try simp only [List.take_succ_cons, List.take_zero, List.mem_cons, List.not_mem_nil, or_false] at hx; (rcases hx with rfl | rfl) <;> simp)
            refine ⟨fun _ _ => hT, ?_⟩
            -- r11.21 t83 := not t82 ?16=False
            refine al_gtake (i := 21) rfl (by kernel_rfl) (by kernel_rfl) (by kernel_rfl) rfl rfl rfl (fun _ _ _ h => h) (op_not rfl) rfl ?_
            -- r11.22 t84 := pick  t78 Ctrue t83
            refine al_take (i := 22) rfl (by kernel_rfl) (by kernel_rfl) (by kernel_rfl) rfl (fun _ _ _ h => h) (op_pick_f rfl rfl) rfl ?_
            -- r11.23 t85 := move  t84
            refine al_take (i := 23) rfl (by kernel_rfl) (by kernel_rfl) (by kernel_rfl) rfl (fun _ _ _ h => h) (op_move rfl) rfl ?_
            refine al_split (fun h85 => ?_) (fun h85 => ?_)
            · skip
              try simp only [decide_eq_true_eq, decide_eq_false_iff_not, Bool.not_eq_true', Bool.not_eq_false', Bool.not_eq_eq_eq_not, Bool.not_true, Bool.not_false] at h85
              refine al_gskip (i := 24) rfl (by kernel_rfl) (by kernel_rfl) (by kernel_rfl) rfl rfl rfl rfl (fun _ _ _ h => h) (fun _ => hT) ?_
              refine al_gskip (i := 25) rfl (by kernel_rfl) (by kernel_rfl) (by kernel_rfl) rfl rfl rfl rfl (fun _ _ _ h => h) (fun _ => hT) ?_
              refine al_gskip (i := 26) rfl (by kernel_rfl) (by kernel_rfl) (by kernel_rfl) rfl rfl rfl rfl (fun _ _ _ h => h) (fun _ => hT) ?_
              refine al_gundef (i := 27) rfl (by kernel_rfl) (by kernel_rfl) (by kernel_rfl) rfl rfl rfl (fun _ _ _ h => h) (fun _ => hT) ?_
              refine al_gundef (i := 28) rfl (by kernel_rfl) (by kernel_rfl) (by kernel_rfl) rfl rfl rfl (fun _ _ _ h => h) (fun _ => hT) ?_
              refine al_gundef (i := 29) rfl (by kernel_rfl) (by kernel_rfl) (by kernel_rfl) rfl rfl rfl (fun _ _ _ h => h) (fun _ => hT) ?_
              refine al_gundef (i := 30) rfl (by kernel_rfl) (by kernel_rfl) (by kernel_rfl) rfl rfl rfl (fun _ _ _ h => h) (fun _ => hT) ?_
              refine al_gundef (i := 31) rfl (by kernel_rfl) (by kernel_rfl) (by kernel_rfl) rfl rfl rfl (fun _ _ _ h => h) (fun _ => hT) ?_
              refine al_gundef (i := 32) rfl (by kernel_rfl) (by kernel_rfl) (by kernel_rfl) rfl rfl rfl (fun _ _ _ h => h) (fun _ => hT) ?_
              refine al_gundef (i := 33) rfl (by kernel_rfl) (by kernel_rfl) (by kernel_rfl) rfl rfl rfl (fun _ _ _ h => h) (fun _ => hT) ?_
              refine al_gundef (i := 34) rfl (by kernel_rfl) (by kernel_rfl) (by kernel_rfl) rfl rfl rfl (fun _ _ _ h => h) (fun _ => hT) ?_
              refine al_gundef (i := 35) rfl (by kernel_rfl) (by kernel_rfl) (by kernel_rfl) rfl rfl rfl (fun _ _ _ h => h) (fun _ => hT) ?_
              refine al_gskip (i := 36) rfl (by kernel_rfl) (by kernel_rfl) (by kernel_rfl) rfl rfl rfl rfl (fun _ _ _ h => h) (fun _ => hT) ?_
              -- r11.37 t99 := pick  t85 Ctrue t98
              refine al_take (i := 37) rfl (by kernel_rfl) (by kernel_rfl) (by kernel_rfl) rfl (fun _ _ _ h => h) (op_pick_t rfl rfl) rfl ?_
              refine al_done (by kernel_rfl) ?_
              refine pq_then ?_
              refine cw_cond_t rfl ?_
              refine cw_seq ?_
              refine cw_region ?_
              -- r12.0 t2 := assign  Cfalse
              refine ol_pure rfl (op_assign rfl) ?_
              refine ol_nil ?_
              refine pq_then ?_
              refine cw_ret ?_
              refine pq_in_ret ?_
              refine pq_ret ?_
              refine pq_ret ?_
              refine pq_in_ret ?_
              refine pq_ret ?_
              refine ret1 rfl rfl ?_
              -- ret2 h12f h54t h65f h71f h78f h85t
              exact hS.sc_b (rightPB_f fun hR => by have := hR.rule.at_ hlt; simp [ruleR, h85] at this)
            · skip
              try simp only [decide_eq_true_eq, decide_eq_false_iff_not, Bool.not_eq_true', Bool.not_eq_false', Bool.not_eq_eq_eq_not, Bool.not_true, Bool.not_false] at h85
              have hrk : ruleR atoms.length rs[k] = true := by
                unfold ruleR
                rw [decide_eq_true (by omega : 0 ≤ rs[k].head), decide_eq_true (by omega : rs[k].head < atoms.length), h78, h85]
                rfl
              have hsp := (setI_iff.1 h78).1
              have hsq := (setI_iff.1 h85).1
              -- r11.24 t86 := move  t5 ?23=False
              refine al_gtake (i := 24) rfl (by kernel_rfl) (by kernel_rfl) (by kernel_rfl) rfl rfl rfl (fun _ _ _ h => h) (op_move rfl) rfl ?_
              -- r11.25 t87 := gtr t86 C0 ?23=False
              refine al_gtake (i := 25) rfl (by kernel_rfl) (by kernel_rfl) (by kernel_rfl) rfl rfl rfl (fun _ _ _ h => h) (op_gtr rfl rfl) rfl ?_
              -- r11.26 t88 := move  t87 ?23=False
              refine al_gtake (i := 26) rfl (by kernel_rfl) (by kernel_rfl) (by kernel_rfl) rfl rfl rfl (fun _ _ _ h => h) (op_move rfl) rfl ?_
              refine al_split (fun h88 => ?_) (fun h88 => ?_)
              · skip
                try simp only [decide_eq_true_eq, decide_eq_false_iff_not, Bool.not_eq_true', Bool.not_eq_false', Bool.not_eq_eq_eq_not, Bool.not_true, Bool.not_false] at h88
                have hlt1 : k - 1 < rs.length := by omega
                obtain ⟨_, cs1, _, ⟨p1, q1, hcs1, hp1, hq1, hhd1⟩, hcells1'⟩ := h2.el hlt1
                subst hcs1
                obtain ⟨op1, cp1, hpe, hlp1, hmp1⟩ := hp1.elim
                obtain ⟨oq1, cq1, hqe, hlq1, hmq1⟩ := hq1.elim
                subst hpe
                subst hqe
                have hcells1 : ∀ (j : Nat) (u : Value), [Value.int .i64 rs[k - 1].head, .slice op1 rs[k - 1].pos.length cp1, .slice oq1 rs[k - 1].neg.length cq1][j]? = some u → gcell G ((elA oR (((k : Int) - 1).toNat * 3)).add j) = some u := by rw [show ((k : Int) - 1).toNat = k - 1 from by omega]; exact hcells1'
                have hr1 := hp2.at_ (k := k - 1) (by omega) hlt1
                simp only [ruleR, Bool.and_eq_true, decide_eq_true_eq] at hr1
                have hsp1 := (setI_iff.1 hr1.1.2).1
                have hsq1 := (setI_iff.1 hr1.2).1
                -- r11.27 t89 := fieldAddr [25, 1] t1 ?26=True
                refine al_gtake (i := 27) rfl (by kernel_rfl) (by kernel_rfl) (by kernel_rfl) rfl rfl rfl (fun _ _ _ h => h) (op_fieldAddr fld_25_1 rfl) rfl ?_
                -- r11.28 t90 := load [23] t89 ?26=True
                refine al_gload (i := 28) rfl (by kernel_rfl) (by kernel_rfl) (by kernel_rfl) rfl rfl rfl (fun _ _ _ h => h) (by exact op_load1 one_23 rfl (fun w hw => (hw.bcell (i := 1) rfl).trans rfl)) rfl hT ?_
                -- r11.29 t91 := move  t5 ?26=True
                refine al_gtake (i := 29) rfl (by kernel_rfl) (by kernel_rfl) (by kernel_rfl) rfl rfl rfl (fun _ _ _ h => h) (op_move rfl) rfl ?_
                -- r11.30 t92 := sub t91 C1 ?26=True
                refine al_gtake (i := 30) rfl (by kernel_rfl) (by kernel_rfl) (by kernel_rfl) rfl rfl rfl (fun _ _ _ h => h) (op_sub rfl rfl (by omega) (by omega)) rfl ?_
                -- r11.31 t93 := indexAddr [23] t90 t92 ?26=True
                refine al_gtake (i := 31) rfl (by kernel_rfl) (by kernel_rfl) (by kernel_rfl) rfl rfl rfl (fun _ _ _ h => h) (op_indexAddr sl_23 rfl rfl (by omega) (by omega) (by assumption)) rfl ?_
                -- r11.32 t94 := load [48] t93 ?26=True
                refine al_gload (i := 32) rfl (by kernel_rfl) (by kernel_rfl) (by kernel_rfl) rfl rfl rfl (fun _ _ _ h => h) (by exact op_loadN agg_48 rfl (by rfl) (fun w hw k u hk => hw.gcell (hcells1 k u hk))) rfl hT ?_
                -- r11.33 t95 := load [48] t6 ?26=True
                refine al_gload (i := 33) rfl (by kernel_rfl) (by kernel_rfl) (by kernel_rfl) rfl rfl rfl (fun _ _ _ h => h) (by exact op_loadN agg_48 rfl (by rfl) (fun w hw k u hk => (hw.bcell (i := 0) rfl).trans hk)) rfl hT ?_
                refine al_gstep (i := 34) rfl (by kernel_rfl) rfl rfl rfl (op_call_sc hS cf_44 rfl (R16_Order_c G _ hS.hold rs[k - 1] rs[k] _ _ _ _ hp1 hq1 hp hq ⟨by omega, by omega⟩ ⟨by omega, by omega⟩ (fun x hx => (hsp1 x hx).1) (fun x hx => (hsq1 x hx).1) (fun x hx => (hsp x hx).1) (fun x hx => (hsq x hx).1))) ?_
                clear hS
                rintro _ w ⟨rfl, hS⟩
                have hT := hT.back hS (by first | exact Le.refl _ | assumption) (fun x hx => by try simp only [List.take_succ_cons, List.take_zero, List.mem_cons, List.not_mem_nil, or_false] at hx; (rcases hx with rfl | rfl) <;> simp)
                refine ⟨fun _ _ => hT, ?_⟩
                -- r11.35 t97 := geq t96 C0 ?26=True
                refine al_gtake (i := 35) rfl (by kernel_rfl) (by kernel_rfl) (by kernel_rfl) rfl rfl rfl (fun _ _ _ h => h) (op_geq rfl rfl) rfl ?_
                -- r11.36 t98 := pick  t88 t97 Cfalse ?23=False
                refine al_gtake (i := 36) rfl (by kernel_rfl) (by kernel_rfl) (by kernel_rfl) rfl rfl rfl (fun _ _ _ h => h) (op_pick_t rfl rfl) rfl ?_
                -- r11.37 t99 := pick  t85 Ctrue t98
                refine al_take (i := 37) rfl (by kernel_rfl) (by kernel_rfl) (by kernel_rfl) rfl (fun _ _ _ h => h) (op_pick_f rfl rfl) rfl ?_
                refine al_done (by kernel_rfl) ?_
                refine pq_then ?_
                refine cw_cond rfl (fun h99 => ?_) (fun h99 => ?_)
                · skip
                  try simp only [decide_eq_true_eq, decide_eq_false_iff_not, Bool.not_eq_true', Bool.not_eq_false', Bool.not_eq_eq_eq_not, Bool.not_true, Bool.not_false] at h99
                  refine cw_seq ?_
                  refine cw_region ?_
                  -- r12.0 t2 := assign  Cfalse
                  refine ol_pure rfl (op_assign rfl) ?_
                  refine ol_nil ?_
                  refine pq_then ?_
                  refine cw_ret ?_
                  refine pq_in_ret ?_
                  refine pq_ret ?_
                  refine pq_ret ?_
                  refine pq_in_ret ?_
                  refine pq_ret ?_
                  refine ret1 rfl rfl ?_
                  -- ret2 h12f h54t h65f h71f h78f h85f h88t h99t
                  exact hS.sc_b (rightPB_f fun hR => by have := hR.rule.step (by omega) hlt hlt1; simp only [decide_eq_true_eq] at this; omega)
                · skip
                  try simp only [decide_eq_true_eq, decide_eq_false_iff_not, Bool.not_eq_true', Bool.not_eq_false', Bool.not_eq_eq_eq_not, Bool.not_true, Bool.not_false] at h99
                  refine cw_skip ?_
                  refine pq_in_normal ?_
                  refine pq_then ?_
                  refine cw_region ?_
                  -- r9.0 t55 := move  t5
                  refine ol_pure rfl (op_move rfl) ?_
                  -- r9.1 t56 := add t55 C1
                  refine ol_pure rfl (op_add rfl rfl (by omega) (by omega)) ?_
                  -- r9.2 t5 := assign  t56
                  refine ol_pure rfl (op_assign rfl) ?_
                  refine ol_nil ?_
                  -- end of round 2 h12f h54t h65f h71f h78f h85f h88t h99f
                  refine pq_loop _ _ (by exact (by replace hS := SS.drop [] hS; exact ⟨k + 1, rfl, by omega, rfl, hp2.succ hlt hrk (.inr ⟨hlt1, decide_eq_true (by omega)⟩), hS⟩)) ((Sub.cons rfl (Sub.cons rfl (Sub.cons rfl Sub.nil)))) (by omega)
              · skip
                try simp only [decide_eq_true_eq, decide_eq_false_iff_not, Bool.not_eq_true', Bool.not_eq_false', Bool.not_eq_eq_eq_not, Bool.not_true, Bool.not_false] at h88
                refine al_gskip (i := 27) rfl (by kernel_rfl) (by kernel_rfl) (by kernel_rfl) rfl rfl rfl rfl (fun _ _ _ h => h) (fun _ => hT) ?_
                refine al_gskip (i := 28) rfl (by kernel_rfl) (by kernel_rfl) (by kernel_rfl) rfl rfl rfl rfl (fun _ _ _ h => h) (fun _ => hT) ?_
                refine al_gskip (i := 29) rfl (by kernel_rfl) (by kernel_rfl) (by kernel_rfl) rfl rfl rfl rfl (fun _ _ _ h => h) (fun _ => hT) ?_
                refine al_gskip (i := 30) rfl (by kernel_rfl) (by kernel_rfl) (by kernel_rfl) rfl rfl rfl rfl (fun _ _ _ h => h) (fun _ => hT) ?_
                refine al_gskip (i := 31) rfl (by kernel_rfl) (by kernel_rfl) (by kernel_rfl) rfl rfl rfl rfl (fun _ _ _ h => h) (fun _ => hT) ?_
                refine al_gskip (i := 32) rfl (by kernel_rfl) (by kernel_rfl) (by kernel_rfl) rfl rfl rfl rfl (fun _ _ _ h => h) (fun _ => hT) ?_
                refine al_gskip (i := 33) rfl (by kernel_rfl) (by kernel_rfl) (by kernel_rfl) rfl rfl rfl rfl (fun _ _ _ h => h) (fun _ => hT) ?_
                refine al_gskip (i := 34) rfl (by kernel_rfl) (by kernel_rfl) (by kernel_rfl) rfl rfl rfl rfl (fun _ _ _ h => h) (fun _ => hT) ?_
                refine al_gskip (i := 35) rfl (by kernel_rfl) (by kernel_rfl) (by kernel_rfl) rfl rfl rfl rfl (fun _ _ _ h => h) (fun _ => hT) ?_
                -- r11.36 t98 := pick  t88 t97 Cfalse ?23=False
                refine al_gtake (i := 36) rfl (by kernel_rfl) (by kernel_rfl) (by kernel_rfl) rfl rfl rfl (fun _ _ _ h => h) (op_pick_f rfl rfl) rfl ?_
                -- r11.37 t99 := pick  t85 Ctrue t98
                refine al_take (i := 37) rfl (by kernel_rfl) (by kernel_rfl) (by kernel_rfl) rfl (fun _ _ _ h => h) (op_pick_f rfl rfl) rfl ?_
                refine al_done (by kernel_rfl) ?_
                refine pq_then ?_
                refine cw_cond_f rfl ?_
                refine cw_skip ?_
                refine pq_in_normal ?_
                refine pq_then ?_
                refine cw_region ?_
                -- r9.0 t55 := move  t5
                refine ol_pure rfl (op_move rfl) ?_
                -- r9.1 t56 := add t55 C1
                refine ol_pure rfl (op_add rfl rfl (by omega) (by omega)) ?_
                -- r9.2 t5 := assign  t56
                refine ol_pure rfl (op_assign rfl) ?_
                refine ol_nil ?_
                -- end of round 2 h12f h54t h65f h71f h78f h85f h88f
                refine pq_loop _ _ (by exact (by replace hS := SS.drop [] hS; exact ⟨k + 1, rfl, by omega, rfl, hp2.succ hlt hrk (.inl (by omega)), hS⟩)) ((Sub.cons rfl (Sub.cons rfl (Sub.cons rfl Sub.nil)))) (by omega)
    · skip
      try simp only [decide_eq_true_eq, decide_eq_false_iff_not, Bool.not_eq_true', Bool.not_eq_false', Bool.not_eq_eq_eq_not, Bool.not_true, Bool.not_false] at h54
      refine cw_exit ?_
      refine pq_exit ?_
      refine pq_exit ?_
      refine pq_in_exit ?_
      refine pq_then ?_
      refine cw_seq ?_
      refine cw_region ?_
      -- r13.0 t2 := assign  Ctrue
      refine ol_pure rfl (op_assign rfl) ?_
      refine ol_nil ?_
      refine pq_then ?_
      refine cw_ret ?_
      refine ret1 rfl rfl ?_
      -- ret3 h12f h54f
      exact hS.sc_b (rightPB_t ⟨hA, hp2.all (by omega)⟩)
end Go.Proofs.Ytbpmkidaoemebaa.K
