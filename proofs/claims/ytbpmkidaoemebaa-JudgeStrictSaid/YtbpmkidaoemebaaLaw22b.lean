/-
  The law package of layer 22: what is too great; rules that tell, atoms that are open, rules that hold up, steps of a proof.
  No condition but the premises that each theorem names.
-/
import Derived.Test.YtbpmkidaoemebaaLaw22
import Derived.Test.YtbpmkidaoemebaaPlk
namespace Go.Proofs.Ytbpmkidaoemebaa.K
open Go Go.RowKit
set_option linter.unusedVariables false
set_option linter.unusedSimpArgs false

open Pl

set_option maxRecDepth 100000 in
set_option maxHeartbeats 400000 in

theorem L16_Great_c (G : GH) (w0 : World) (hG : Holds G w0) (va vr : Value) (atoms : List (List Cell)) (rs : List Rule) (h1 : RSl 1 EAtom G va atoms) (h2 : RSl 3 ERule G vr rs)  :
    Calls Try.prog 22 #[.agg #[va, vr]] w0 (Sc w0 (.bool (greatG atoms rs))) := by
  obtain ⟨oA, cA, rfl, hlA, hmA⟩ := h1.elim
  obtain ⟨oR, cR, rfl, hlR, hmR⟩ := h2.elim
  have hle1 := h1.le
  have hle2 := h2.le
  refine enter Try.func22 rfl (N := 54) rfl (Nat.le_of_ble_eq_true rfl) ?_
  have hS := SS.init hG
  refine cw_seq ?_
  refine cw_region ?_
  -- r0.0 t1 := box [25] t0
  refine ol_step rfl (op_box hS rfl rfl) ?_
  clear hS
  rintro _ w ⟨b1, rfl, hS⟩
  -- r0.1 t2 := assign  Cfalse
  refine ol_pure rfl (op_assign rfl) ?_
  refine ol_nil ?_
  refine pq_then ?_
  refine cw_seq ?_
  refine cw_seq ?_
  refine cw_region ?_
  -- r1.0 t5 := fieldAddr [25, 0] t1
  refine ol_pure rfl (op_fieldAddr fld_25_0 rfl) ?_
  -- r1.1 t6 := load [22] t5
  refine ol_load rfl (op_load1 one_22 rfl (fun w hw => (hw.bcell (i := 0) rfl).trans rfl)) hS ?_
  -- r1.2 t7 := call len t6
  refine ol_pure rfl (op_len sl_22 rfl rfl) ?_
  -- r1.3 t8 := gtr t7 C80
  refine ol_pure rfl (op_gtr rfl rfl) ?_
  -- r1.4 t9 := move  t8
  refine ol_pure rfl (op_move rfl) ?_
  refine ol_split (fun h9 => ?_) (fun h9 => ?_)
  · skip
    try simp only [decide_eq_true_eq, decide_eq_false_iff_not, Bool.not_eq_true', Bool.not_eq_false', Bool.not_eq_eq_eq_not, Bool.not_true, Bool.not_false] at h9
    refine ol_guard_no rfl rfl rfl rfl ?_
    refine ol_guard_no rfl rfl rfl rfl ?_
    refine ol_guard_no rfl rfl rfl rfl ?_
    refine ol_guard_no rfl rfl rfl rfl ?_
    -- r1.9 t14 := pick  t9 Ctrue t13
    refine ol_pure rfl (op_pick_t rfl rfl) ?_
    refine ol_nil ?_
    refine pq_then ?_
    refine cw_cond_t rfl ?_
    refine cw_seq ?_
    refine cw_region ?_
    -- r2.0 t2 := assign  Ctrue
    refine ol_pure rfl (op_assign rfl) ?_
    refine ol_nil ?_
    refine pq_then ?_
    refine cw_ret ?_
    refine pq_ret ?_
    refine ret1 rfl rfl ?_
    -- ret1 h9t
    exact hS.sc_b (by have e : decide (atoms.length ≤ 80) = false := decide_eq_false (by omega); rw [greatG, e]; rfl)
  · skip
    try simp only [decide_eq_true_eq, decide_eq_false_iff_not, Bool.not_eq_true', Bool.not_eq_false', Bool.not_eq_eq_eq_not, Bool.not_true, Bool.not_false] at h9
    -- r1.5 t10 := fieldAddr [25, 1] t1 ?4=False
    refine ol_guard_pure rfl rfl rfl (op_fieldAddr fld_25_1 rfl) ?_
    -- r1.6 t11 := load [23] t10 ?4=False
    refine ol_guard_load rfl rfl rfl (op_load1 one_23 rfl (fun w hw => (hw.bcell (i := 0) rfl).trans rfl)) hS ?_
    -- r1.7 t12 := call len t11 ?4=False
    refine ol_guard_pure rfl rfl rfl (op_len sl_23 rfl rfl) ?_
    -- r1.8 t13 := gtr t12 C200 ?4=False
    refine ol_guard_pure rfl rfl rfl (op_gtr rfl rfl) ?_
    -- r1.9 t14 := pick  t9 Ctrue t13
    refine ol_pure rfl (op_pick_f rfl rfl) ?_
    refine ol_nil ?_
    refine pq_then ?_
    refine cw_cond rfl (fun h14 => ?_) (fun h14 => ?_)
    · skip
      try simp only [decide_eq_true_eq, decide_eq_false_iff_not, Bool.not_eq_true', Bool.not_eq_false', Bool.not_eq_eq_eq_not, Bool.not_true, Bool.not_false] at h14
      refine cw_seq ?_
      refine cw_region ?_
      -- r2.0 t2 := assign  Ctrue
      refine ol_pure rfl (op_assign rfl) ?_
      refine ol_nil ?_
      refine pq_then ?_
      refine cw_ret ?_
      refine pq_ret ?_
      refine ret1 rfl rfl ?_
      -- ret1 h9f h14t
      exact hS.sc_b (by have e : decide (rs.length ≤ 200) = false := decide_eq_false (by omega); rw [greatG, e]; simp)
    · skip
      try simp only [decide_eq_true_eq, decide_eq_false_iff_not, Bool.not_eq_true', Bool.not_eq_false', Bool.not_eq_eq_eq_not, Bool.not_true, Bool.not_false] at h14
      refine cw_skip ?_
      refine pq_then ?_
      refine cw_seq ?_
      refine cw_seq ?_
      refine cw_region ?_
      -- r3.0 t3 := assign  C0
      refine ol_pure rfl (op_assign rfl) ?_
      refine ol_nil ?_
      refine pq_then ?_
      refine cw_block ?_
      refine cw_loop (fun e w n => ∃ k : Nat, e = [(1, .pointer (some ⟨b1, 0, none⟩)), (3, .int .i64 (k : Nat))] ∧ k ≤ atoms.length ∧ n = atoms.length - k ∧ (atoms.take k).all (fun t : List Cell => decide (t.length ≤ 200)) = true ∧ SS G w0 G [.blk b1 25 [.slice oA atoms.length cA, .slice oR rs.length cR]] w) _ _ (by exact ⟨0, rfl, Nat.zero_le _, rfl, rfl, hS⟩) ((Sub.cons rfl (Sub.cons rfl Sub.nil))) ?_
      clear hS
      rintro e w n ⟨k, rfl, hk, rfl, hp, hS⟩
      refine cw_seq ?_
      refine cw_seq ?_
      refine cw_region ?_
      -- r4.0 t15 := move  t3
      refine ol_pure rfl (op_move rfl) ?_
      -- r4.1 t16 := fieldAddr [25, 0] t1
      refine ol_pure rfl (op_fieldAddr fld_25_0 rfl) ?_
      -- r4.2 t17 := load [22] t16
      refine ol_load rfl (op_load1 one_22 rfl (fun w hw => (hw.bcell (i := 0) rfl).trans rfl)) hS ?_
      -- r4.3 t18 := call len t17
      refine ol_pure rfl (op_len sl_22 rfl rfl) ?_
      -- r4.4 t19 := lss t15 t18
      refine ol_pure rfl (op_lss rfl rfl) ?_
      refine ol_nil ?_
      refine pq_then ?_
      refine cw_cond rfl (fun h19 => ?_) (fun h19 => ?_)
      · skip
        try simp only [decide_eq_true_eq, decide_eq_false_iff_not, Bool.not_eq_true', Bool.not_eq_false', Bool.not_eq_eq_eq_not, Bool.not_true, Bool.not_false] at h19
        have hlt : k < atoms.length := by omega
        obtain ⟨hoa, ob, d, hcell, hat, hd1, hd2⟩ := h1.slAt hlt
        refine cw_skip ?_
        refine pq_then ?_
        refine cw_seq ?_
        refine cw_block ?_
        refine cw_seq ?_
        refine cw_region ?_
        -- r6.0 t22 := fieldAddr [25, 0] t1
        refine ol_pure rfl (op_fieldAddr fld_25_0 rfl) ?_
        -- r6.1 t23 := load [22] t22
        refine ol_load rfl (op_load1 one_22 rfl (fun w hw => (hw.bcell (i := 0) rfl).trans rfl)) hS ?_
        -- r6.2 t24 := move  t3
        refine ol_pure rfl (op_move rfl) ?_
        -- r6.3 t25 := indexAddr [22] t23 t24
        refine ol_pure rfl (op_indexN sl_22 rfl rfl (by omega) (by assumption)) ?_
        -- r6.4 t26 := load [70] t25
        refine ol_load rfl (op_load1 one_70 rfl (fun w hw => hw.gcell hcell)) hS ?_
        -- r6.5 t27 := call len t26
        refine ol_pure rfl (op_len sl_70 rfl rfl) ?_
        -- r6.6 t28 := gtr t27 C200
        refine ol_pure rfl (op_gtr rfl rfl) ?_
        refine ol_nil ?_
        refine pq_then ?_
        refine cw_cond rfl (fun h28 => ?_) (fun h28 => ?_)
        · skip
          try simp only [decide_eq_true_eq, decide_eq_false_iff_not, Bool.not_eq_true', Bool.not_eq_false', Bool.not_eq_eq_eq_not, Bool.not_true, Bool.not_false] at h28
          refine cw_seq ?_
          refine cw_region ?_
          -- r7.0 t2 := assign  Ctrue
          refine ol_pure rfl (op_assign rfl) ?_
          refine ol_nil ?_
          refine pq_then ?_
          refine cw_ret ?_
          refine pq_in_ret ?_
          refine pq_ret ?_
          refine pq_ret ?_
          refine pq_in_ret ?_
          refine pq_ret ?_
          refine ret1 rfl rfl ?_
          -- ret2 h9f h14f h19t h28t
          exact hS.sc_b (by rw [greatG, Pl.all_false_at (fun t : List Cell => decide (t.length ≤ 200)) atoms k hlt (decide_eq_false (by omega))]; simp)
        · skip
          try simp only [decide_eq_true_eq, decide_eq_false_iff_not, Bool.not_eq_true', Bool.not_eq_false', Bool.not_eq_eq_eq_not, Bool.not_true, Bool.not_false] at h28
          refine cw_skip ?_
          refine pq_in_normal ?_
          refine pq_then ?_
          refine cw_region ?_
          -- r5.0 t20 := move  t3
          refine ol_pure rfl (op_move rfl) ?_
          -- r5.1 t21 := add t20 C1
          refine ol_pure rfl (op_add rfl rfl (by omega) (by omega)) ?_
          -- r5.2 t3 := assign  t21
          refine ol_pure rfl (op_assign rfl) ?_
          refine ol_nil ?_
          -- end of round 1 h9f h14f h19t h28f
          refine pq_loop _ _ (by exact ⟨k + 1, rfl, by omega, rfl, by rw [Pl.all_take_succ _ _ _ hlt, hp, Bool.true_and]; exact decide_eq_true (by omega), hS⟩) ((Sub.cons rfl (Sub.cons rfl Sub.nil))) (by omega)
      · skip
        try simp only [decide_eq_true_eq, decide_eq_false_iff_not, Bool.not_eq_true', Bool.not_eq_false', Bool.not_eq_eq_eq_not, Bool.not_true, Bool.not_false] at h19
        have hall1 := Pl.all_of_take _ _ _ (show atoms.length ≤ k by omega) hp
        refine cw_exit ?_
        refine pq_exit ?_
        refine pq_exit ?_
        refine pq_in_exit ?_
        refine pq_then ?_
        refine cw_seq ?_
        refine cw_seq ?_
        refine cw_region ?_
        -- r8.0 t4 := assign  C0
        refine ol_pure rfl (op_assign rfl) ?_
        refine ol_nil ?_
        refine pq_then ?_
        refine cw_block ?_
        refine cw_loop (fun e w n => ∃ k : Nat, e = [(1, .pointer (some ⟨b1, 0, none⟩)), (4, .int .i64 (k : Nat))] ∧ k ≤ rs.length ∧ n = rs.length - k ∧ (rs.take k).all (fun r : Rule => decide (r.pos.length ≤ 80) && decide (r.neg.length ≤ 80)) = true ∧ SS G w0 G [.blk b1 25 [.slice oA atoms.length cA, .slice oR rs.length cR]] w) _ _ (by exact ⟨0, rfl, Nat.zero_le _, rfl, rfl, hS⟩) ((Sub.cons rfl (Sub.cons rfl Sub.nil))) ?_
        clear hp hk h19
        clear hS
        rintro e w n ⟨k, rfl, hk2, rfl, hp2, hS⟩
        refine cw_seq ?_
        refine cw_seq ?_
        refine cw_region ?_
        -- r9.0 t29 := move  t4
        refine ol_pure rfl (op_move rfl) ?_
        -- r9.1 t30 := fieldAddr [25, 1] t1
        refine ol_pure rfl (op_fieldAddr fld_25_1 rfl) ?_
        -- r9.2 t31 := load [23] t30
        refine ol_load rfl (op_load1 one_23 rfl (fun w hw => (hw.bcell (i := 0) rfl).trans rfl)) hS ?_
        -- r9.3 t32 := call len t31
        refine ol_pure rfl (op_len sl_23 rfl rfl) ?_
        -- r9.4 t33 := lss t29 t32
        refine ol_pure rfl (op_lss rfl rfl) ?_
        refine ol_nil ?_
        refine pq_then ?_
        refine cw_cond rfl (fun h33 => ?_) (fun h33 => ?_)
        · skip
          try simp only [decide_eq_true_eq, decide_eq_false_iff_not, Bool.not_eq_true', Bool.not_eq_false', Bool.not_eq_eq_eq_not, Bool.not_true, Bool.not_false] at h33
          have hlt : k < rs.length := by omega
          obtain ⟨hoa, cs, hcl, ⟨p, q, rfl, hp, hq, hhd⟩, hcells⟩ := h2.el hlt
          obtain ⟨op, cp, hpe, hlp, hmp⟩ := hp.elim
          obtain ⟨oq, cq, hqe, hlq, hmq⟩ := hq.elim
          subst hpe
          subst hqe
          have hple := hp.le
          have hqle := hq.le
          refine cw_skip ?_
          refine pq_then ?_
          refine cw_seq ?_
          refine cw_block ?_
          refine cw_seq ?_
          refine cw_region ?_
          -- r11.0 t36 := fieldAddr [25, 1] t1
          refine ol_pure rfl (op_fieldAddr fld_25_1 rfl) ?_
          -- r11.1 t37 := load [23] t36
          refine ol_load rfl (op_load1 one_23 rfl (fun w hw => (hw.bcell (i := 0) rfl).trans rfl)) hS ?_
          -- r11.2 t38 := move  t4
          refine ol_pure rfl (op_move rfl) ?_
          -- r11.3 t39 := indexAddr [23] t37 t38
          refine ol_pure rfl (op_indexN sl_23 rfl rfl (by omega) (by assumption)) ?_
          -- r11.4 t40 := fieldAddr [48, 1] t39
          refine ol_pure rfl (op_fieldAddr fld_48_1 rfl) ?_
          -- r11.5 t41 := load [29] t40
          refine ol_load rfl (op_load1 one_29 rfl (fun w hw => hw.gcell (hcells 1 _ rfl))) hS ?_
          -- r11.6 t42 := call len t41
          refine ol_pure rfl (op_len sl_29 rfl rfl) ?_
          -- r11.7 t43 := gtr t42 C80
          refine ol_pure rfl (op_gtr rfl rfl) ?_
          -- r11.8 t44 := move  t43
          refine ol_pure rfl (op_move rfl) ?_
          refine ol_split (fun h44 => ?_) (fun h44 => ?_)
          · skip
            try simp only [decide_eq_true_eq, decide_eq_false_iff_not, Bool.not_eq_true', Bool.not_eq_false', Bool.not_eq_eq_eq_not, Bool.not_true, Bool.not_false] at h44
            refine ol_guard_no rfl rfl rfl rfl ?_
            refine ol_guard_no rfl rfl rfl rfl ?_
            refine ol_guard_no rfl rfl rfl rfl ?_
            refine ol_guard_no rfl rfl rfl rfl ?_
            refine ol_guard_no rfl rfl rfl rfl ?_
            refine ol_guard_no rfl rfl rfl rfl ?_
            refine ol_guard_no rfl rfl rfl rfl ?_
            refine ol_guard_no rfl rfl rfl rfl ?_
            -- r11.17 t53 := pick  t44 Ctrue t52
            refine ol_pure rfl (op_pick_t rfl rfl) ?_
            refine ol_nil ?_
            refine pq_then ?_
            refine cw_cond_t rfl ?_
            refine cw_seq ?_
            refine cw_region ?_
            -- r12.0 t2 := assign  Ctrue
            refine ol_pure rfl (op_assign rfl) ?_
            refine ol_nil ?_
            refine pq_then ?_
            refine cw_ret ?_
            refine pq_in_ret ?_
            refine pq_ret ?_
            refine pq_ret ?_
            refine pq_in_ret ?_
            refine pq_ret ?_
            refine ret1 rfl rfl ?_
            -- ret3 h9f h14f h19f h33t h44t
            exact hS.sc_b (by rw [greatG, Pl.all_false_at (fun r : Rule => decide (r.pos.length ≤ 80) && decide (r.neg.length ≤ 80)) rs k hlt (by rw [decide_eq_false (by omega : ¬ rs[k].pos.length ≤ 80)]; rfl)]; simp)
          · skip
            try simp only [decide_eq_true_eq, decide_eq_false_iff_not, Bool.not_eq_true', Bool.not_eq_false', Bool.not_eq_eq_eq_not, Bool.not_true, Bool.not_false] at h44
            -- r11.9 t45 := fieldAddr [25, 1] t1 ?8=False
            refine ol_guard_pure rfl rfl rfl (op_fieldAddr fld_25_1 rfl) ?_
            -- r11.10 t46 := load [23] t45 ?8=False
            refine ol_guard_load rfl rfl rfl (op_load1 one_23 rfl (fun w hw => (hw.bcell (i := 0) rfl).trans rfl)) hS ?_
            -- r11.11 t47 := move  t4 ?8=False
            refine ol_guard_pure rfl rfl rfl (op_move rfl) ?_
            -- r11.12 t48 := indexAddr [23] t46 t47 ?8=False
            refine ol_guard_pure rfl rfl rfl (op_indexN sl_23 rfl rfl (by omega) (by assumption)) ?_
            -- r11.13 t49 := fieldAddr [48, 2] t48 ?8=False
            refine ol_guard_pure rfl rfl rfl (op_fieldAddr fld_48_2 rfl) ?_
            -- r11.14 t50 := load [29] t49 ?8=False
            refine ol_guard_load rfl rfl rfl (op_load1 one_29 rfl (fun w hw => hw.gcell (hcells 2 _ rfl))) hS ?_
            -- r11.15 t51 := call len t50 ?8=False
            refine ol_guard_pure rfl rfl rfl (op_len sl_29 rfl rfl) ?_
            -- r11.16 t52 := gtr t51 C80 ?8=False
            refine ol_guard_pure rfl rfl rfl (op_gtr rfl rfl) ?_
            -- r11.17 t53 := pick  t44 Ctrue t52
            refine ol_pure rfl (op_pick_f rfl rfl) ?_
            refine ol_nil ?_
            refine pq_then ?_
            refine cw_cond rfl (fun h53 => ?_) (fun h53 => ?_)
            · skip
              try simp only [decide_eq_true_eq, decide_eq_false_iff_not, Bool.not_eq_true', Bool.not_eq_false', Bool.not_eq_eq_eq_not, Bool.not_true, Bool.not_false] at h53
              refine cw_seq ?_
              refine cw_region ?_
              -- r12.0 t2 := assign  Ctrue
              refine ol_pure rfl (op_assign rfl) ?_
              refine ol_nil ?_
              refine pq_then ?_
              refine cw_ret ?_
              refine pq_in_ret ?_
              refine pq_ret ?_
              refine pq_ret ?_
              refine pq_in_ret ?_
              refine pq_ret ?_
              refine ret1 rfl rfl ?_
              -- ret3 h9f h14f h19f h33t h44f h53t
              exact hS.sc_b (by rw [greatG, Pl.all_false_at (fun r : Rule => decide (r.pos.length ≤ 80) && decide (r.neg.length ≤ 80)) rs k hlt (by rw [decide_eq_false (by omega : ¬ rs[k].neg.length ≤ 80), Bool.and_false])]; simp)
            · skip
              try simp only [decide_eq_true_eq, decide_eq_false_iff_not, Bool.not_eq_true', Bool.not_eq_false', Bool.not_eq_eq_eq_not, Bool.not_true, Bool.not_false] at h53
              refine cw_skip ?_
              refine pq_in_normal ?_
              refine pq_then ?_
              refine cw_region ?_
              -- r10.0 t34 := move  t4
              refine ol_pure rfl (op_move rfl) ?_
              -- r10.1 t35 := add t34 C1
              refine ol_pure rfl (op_add rfl rfl (by omega) (by omega)) ?_
              -- r10.2 t4 := assign  t35
              refine ol_pure rfl (op_assign rfl) ?_
              refine ol_nil ?_
              -- end of round 2 h9f h14f h19f h33t h44f h53f
              refine pq_loop _ _ (by exact ⟨k + 1, rfl, by omega, rfl, by rw [Pl.all_take_succ _ _ _ hlt, hp2, Bool.true_and, Bool.and_eq_true]; exact ⟨decide_eq_true (by omega), decide_eq_true (by omega)⟩, hS⟩) ((Sub.cons rfl (Sub.cons rfl Sub.nil))) (by omega)
        · skip
          try simp only [decide_eq_true_eq, decide_eq_false_iff_not, Bool.not_eq_true', Bool.not_eq_false', Bool.not_eq_eq_eq_not, Bool.not_true, Bool.not_false] at h33
          refine cw_exit ?_
          refine pq_exit ?_
          refine pq_exit ?_
          refine pq_in_exit ?_
          refine pq_then ?_
          refine cw_seq ?_
          refine cw_region ?_
          -- r13.0 t2 := assign  Cfalse
          refine ol_pure rfl (op_assign rfl) ?_
          refine ol_nil ?_
          refine pq_then ?_
          refine cw_ret ?_
          refine ret1 rfl rfl ?_
          -- ret4 h9f h14f h19f h33f
          exact hS.sc_b (by have e1 : decide (atoms.length ≤ 80) = true := decide_eq_true (by omega); have e2 : decide (rs.length ≤ 200) = true := decide_eq_true (by omega); rw [greatG, e1, e2, hall1, Pl.all_of_take _ _ _ (show rs.length ≤ k by omega) hp2]; rfl)
set_option maxRecDepth 100000 in
set_option maxHeartbeats 400000 in

theorem L22_great_c (G : GH) (w0 : World) (hG : Holds G w0) (va vr : Value) (atoms : List (List Cell)) (rs : List Rule) (h1 : RSl 1 EAtom G va atoms) (h2 : RSl 3 ERule G vr rs) (vs vh : Value) (l : List Step) (hs : List Int) (h3 : RSl 2 EStep G vs l) (h4 : RSl 1 EInt G vh hs) :
    Calls Try.prog 12 #[.agg #[va, vr], .agg #[vs, vh]] w0 (Sc w0 (.bool (greatB atoms rs l hs))) := by
  obtain ⟨oA, cA, rfl, hlA, hmA⟩ := h1.elim
  obtain ⟨oR, cR, rfl, hlR, hmR⟩ := h2.elim
  have hle1 := h1.le
  have hle2 := h2.le
  obtain ⟨oL, cL, rfl, hlL, hmL⟩ := h3.elim
  obtain ⟨oH, cH, rfl, hlH, hmH⟩ := h4.elim
  have hle3 := h3.le
  refine enter Try.func12 rfl (N := 40) rfl (Nat.le_of_ble_eq_true rfl) ?_
  have hS := SS.init hG
  refine cw_seq ?_
  refine cw_region ?_
  -- r0.0 t2 := box [25] t0
  refine ol_step rfl (op_box hS rfl rfl) ?_
  clear hS
  rintro _ w ⟨b2, rfl, hS⟩
  -- r0.1 t3 := box [31] t1
  refine ol_step rfl (op_box hS rfl rfl) ?_
  clear hS
  rintro _ w ⟨b3, rfl, hS⟩
  -- r0.2 t4 := assign  Cfalse
  refine ol_pure rfl (op_assign rfl) ?_
  refine ol_nil ?_
  refine pq_then ?_
  refine cw_seq ?_
  refine cw_seq ?_
  refine cw_region ?_
  -- r1.0 t6 := load [25] t2
  refine ol_load rfl (op_loadN agg_25 rfl (by rfl) (fun w hw k u hk => (hw.bcell (i := 1) rfl).trans hk)) hS ?_
  -- r1.1 t7 := call f22 t6
  refine ol_step rfl (op_call_sc hS cf_22 rfl (L16_Great_c G _ hS.hold _ _ atoms rs h1 h2)) ?_
  clear hS
  rintro _ w ⟨rfl, hS⟩
  -- r1.2 t8 := move  t7
  refine ol_pure rfl (op_move rfl) ?_
  refine ol_split (fun h8 => ?_) (fun h8 => ?_)
  · skip
    try simp only [decide_eq_true_eq, decide_eq_false_iff_not, Bool.not_eq_true', Bool.not_eq_false', Bool.not_eq_eq_eq_not, Bool.not_true, Bool.not_false] at h8
    refine ol_guard_no rfl rfl rfl rfl ?_
    refine ol_guard_no rfl rfl rfl rfl ?_
    refine ol_guard_no rfl rfl rfl rfl ?_
    -- r1.6 t12 := pick  t8 Ctrue t11
    refine ol_pure rfl (op_pick_t rfl rfl) ?_
    -- r1.7 t13 := move  t12
    refine ol_pure rfl (op_move rfl) ?_
    refine ol_guard_no rfl rfl rfl rfl ?_
    refine ol_guard_no rfl rfl rfl rfl ?_
    refine ol_guard_no rfl rfl rfl rfl ?_
    refine ol_guard_no rfl rfl rfl rfl ?_
    -- r1.12 t18 := pick  t13 Ctrue t17
    refine ol_pure rfl (op_pick_t rfl rfl) ?_
    -- r1.13 t19 := move  t18
    refine ol_pure rfl (op_move rfl) ?_
    refine ol_guard_no rfl rfl rfl rfl ?_
    refine ol_guard_no rfl rfl rfl rfl ?_
    refine ol_guard_no rfl rfl rfl rfl ?_
    refine ol_guard_no rfl rfl rfl rfl ?_
    -- r1.18 t24 := pick  t19 Ctrue t23
    refine ol_pure rfl (op_pick_t rfl rfl) ?_
    refine ol_nil ?_
    refine pq_then ?_
    refine cw_cond_t rfl ?_
    refine cw_seq ?_
    refine cw_region ?_
    -- r2.0 t4 := assign  Ctrue
    refine ol_pure rfl (op_assign rfl) ?_
    refine ol_nil ?_
    refine pq_then ?_
    refine cw_ret ?_
    refine pq_ret ?_
    refine ret1 rfl rfl ?_
    -- ret1 h8t
    exact hS.sc_b (by rw [greatB, h8]; rfl)
  · skip
    try simp only [decide_eq_true_eq, decide_eq_false_iff_not, Bool.not_eq_true', Bool.not_eq_false', Bool.not_eq_eq_eq_not, Bool.not_true, Bool.not_false] at h8
    have hlen : ∀ t ∈ atoms, t.length ≤ 1000000 := fun t ht => by have := (greatG_iff.1 h8).2.2.1 t ht; omega
    -- r1.3 t9 := load [25] t2 ?2=False
    refine ol_guard_load rfl rfl rfl (op_loadN agg_25 rfl (by rfl) (fun w hw k u hk => (hw.bcell (i := 1) rfl).trans hk)) hS ?_
    -- r1.4 t10 := call f23 t9 ?2=False
    refine ol_guard_step rfl rfl rfl (op_call_sc hS cf_23 rfl (R16_Right_c G _ hS.hold _ _ atoms rs h1 h2 hlen)) ?_
    clear hS
    rintro _ w ⟨rfl, hS⟩
    -- r1.5 t11 := not t10 ?2=False
    refine ol_guard_pure rfl rfl rfl (op_not rfl) ?_
    -- r1.6 t12 := pick  t8 Ctrue t11
    refine ol_pure rfl (op_pick_f rfl rfl) ?_
    -- r1.7 t13 := move  t12
    refine ol_pure rfl (op_move rfl) ?_
    refine ol_split (fun h13 => ?_) (fun h13 => ?_)
    · skip
      try simp only [decide_eq_true_eq, decide_eq_false_iff_not, Bool.not_eq_true', Bool.not_eq_false', Bool.not_eq_eq_eq_not, Bool.not_true, Bool.not_false] at h13
      refine ol_guard_no rfl rfl rfl rfl ?_
      refine ol_guard_no rfl rfl rfl rfl ?_
      refine ol_guard_no rfl rfl rfl rfl ?_
      refine ol_guard_no rfl rfl rfl rfl ?_
      -- r1.12 t18 := pick  t13 Ctrue t17
      refine ol_pure rfl (op_pick_t rfl rfl) ?_
      -- r1.13 t19 := move  t18
      refine ol_pure rfl (op_move rfl) ?_
      refine ol_guard_no rfl rfl rfl rfl ?_
      refine ol_guard_no rfl rfl rfl rfl ?_
      refine ol_guard_no rfl rfl rfl rfl ?_
      refine ol_guard_no rfl rfl rfl rfl ?_
      -- r1.18 t24 := pick  t19 Ctrue t23
      refine ol_pure rfl (op_pick_t rfl rfl) ?_
      refine ol_nil ?_
      refine pq_then ?_
      refine cw_cond_t rfl ?_
      refine cw_seq ?_
      refine cw_region ?_
      -- r2.0 t4 := assign  Ctrue
      refine ol_pure rfl (op_assign rfl) ?_
      refine ol_nil ?_
      refine pq_then ?_
      refine cw_ret ?_
      refine pq_ret ?_
      refine ret1 rfl rfl ?_
      -- ret1 h8f h13t
      exact hS.sc_b (by rw [greatB]; simp_all)
    · skip
      try simp only [decide_eq_true_eq, decide_eq_false_iff_not, Bool.not_eq_true', Bool.not_eq_false', Bool.not_eq_eq_eq_not, Bool.not_true, Bool.not_false] at h13
      -- r1.8 t14 := fieldAddr [31, 0] t3 ?7=False
      refine ol_guard_pure rfl rfl rfl (op_fieldAddr fld_31_0 rfl) ?_
      -- r1.9 t15 := load [28] t14 ?7=False
      refine ol_guard_load rfl rfl rfl (op_load1 one_28 rfl (fun w hw => (hw.bcell (i := 0) rfl).trans rfl)) hS ?_
      -- r1.10 t16 := call len t15 ?7=False
      refine ol_guard_pure rfl rfl rfl (op_len sl_28 rfl rfl) ?_
      -- r1.11 t17 := gtr t16 C100 ?7=False
      refine ol_guard_pure rfl rfl rfl (op_gtr rfl rfl) ?_
      -- r1.12 t18 := pick  t13 Ctrue t17
      refine ol_pure rfl (op_pick_f rfl rfl) ?_
      -- r1.13 t19 := move  t18
      refine ol_pure rfl (op_move rfl) ?_
      refine ol_split (fun h19 => ?_) (fun h19 => ?_)
      · skip
        try simp only [decide_eq_true_eq, decide_eq_false_iff_not, Bool.not_eq_true', Bool.not_eq_false', Bool.not_eq_eq_eq_not, Bool.not_true, Bool.not_false] at h19
        refine ol_guard_no rfl rfl rfl rfl ?_
        refine ol_guard_no rfl rfl rfl rfl ?_
        refine ol_guard_no rfl rfl rfl rfl ?_
        refine ol_guard_no rfl rfl rfl rfl ?_
        -- r1.18 t24 := pick  t19 Ctrue t23
        refine ol_pure rfl (op_pick_t rfl rfl) ?_
        refine ol_nil ?_
        refine pq_then ?_
        refine cw_cond_t rfl ?_
        refine cw_seq ?_
        refine cw_region ?_
        -- r2.0 t4 := assign  Ctrue
        refine ol_pure rfl (op_assign rfl) ?_
        refine ol_nil ?_
        refine pq_then ?_
        refine cw_ret ?_
        refine pq_ret ?_
        refine ret1 rfl rfl ?_
        -- ret1 h8f h13f h19t
        exact hS.sc_b (by have e : decide (l.length ≤ 100) = false := decide_eq_false (by omega); rw [greatB, e]; simp)
      · skip
        try simp only [decide_eq_true_eq, decide_eq_false_iff_not, Bool.not_eq_true', Bool.not_eq_false', Bool.not_eq_eq_eq_not, Bool.not_true, Bool.not_false] at h19
        -- r1.14 t20 := fieldAddr [31, 1] t3 ?13=False
        refine ol_guard_pure rfl rfl rfl (op_fieldAddr fld_31_1 rfl) ?_
        -- r1.15 t21 := load [29] t20 ?13=False
        refine ol_guard_load rfl rfl rfl (op_load1 one_29 rfl (fun w hw => (hw.bcell (i := 0) rfl).trans rfl)) hS ?_
        -- r1.16 t22 := call len t21 ?13=False
        refine ol_guard_pure rfl rfl rfl (op_len sl_29 rfl rfl) ?_
        -- r1.17 t23 := gtr t22 C100 ?13=False
        refine ol_guard_pure rfl rfl rfl (op_gtr rfl rfl) ?_
        -- r1.18 t24 := pick  t19 Ctrue t23
        refine ol_pure rfl (op_pick_f rfl rfl) ?_
        refine ol_nil ?_
        refine pq_then ?_
        refine cw_cond rfl (fun h24 => ?_) (fun h24 => ?_)
        · skip
          try simp only [decide_eq_true_eq, decide_eq_false_iff_not, Bool.not_eq_true', Bool.not_eq_false', Bool.not_eq_eq_eq_not, Bool.not_true, Bool.not_false] at h24
          refine cw_seq ?_
          refine cw_region ?_
          -- r2.0 t4 := assign  Ctrue
          refine ol_pure rfl (op_assign rfl) ?_
          refine ol_nil ?_
          refine pq_then ?_
          refine cw_ret ?_
          refine pq_ret ?_
          refine ret1 rfl rfl ?_
          -- ret1 h8f h13f h19f h24t
          exact hS.sc_b (by have e : decide (hs.length ≤ 100) = false := decide_eq_false (by omega); rw [greatB, e]; simp)
        · skip
          try simp only [decide_eq_true_eq, decide_eq_false_iff_not, Bool.not_eq_true', Bool.not_eq_false', Bool.not_eq_eq_eq_not, Bool.not_true, Bool.not_false] at h24
          refine cw_skip ?_
          refine pq_then ?_
          refine cw_seq ?_
          refine cw_seq ?_
          refine cw_region ?_
          -- r3.0 t5 := assign  C0
          refine ol_pure rfl (op_assign rfl) ?_
          refine ol_nil ?_
          refine pq_then ?_
          refine cw_block ?_
          refine cw_loop (fun e w n => ∃ k : Nat, e = [(3, .pointer (some ⟨b3, 0, none⟩)), (5, .int .i64 (k : Nat))] ∧ k ≤ l.length ∧ n = l.length - k ∧ (l.take k).all (fun s : Step => decide (s.atoms.length ≤ 100)) = true ∧ SS G w0 G [.blk b3 31 [.slice oL l.length cL, .slice oH hs.length cH], .blk b2 25 [.slice oA atoms.length cA, .slice oR rs.length cR]] w) _ _ (by exact ⟨0, rfl, Nat.zero_le _, rfl, rfl, hS⟩) ((Sub.cons rfl (Sub.cons rfl Sub.nil))) ?_
          clear hS
          rintro e w n ⟨k, rfl, hk, rfl, hp, hS⟩
          refine cw_seq ?_
          refine cw_seq ?_
          refine cw_region ?_
          -- r4.0 t25 := move  t5
          refine ol_pure rfl (op_move rfl) ?_
          -- r4.1 t26 := fieldAddr [31, 0] t3
          refine ol_pure rfl (op_fieldAddr fld_31_0 rfl) ?_
          -- r4.2 t27 := load [28] t26
          refine ol_load rfl (op_load1 one_28 rfl (fun w hw => (hw.bcell (i := 0) rfl).trans rfl)) hS ?_
          -- r4.3 t28 := call len t27
          refine ol_pure rfl (op_len sl_28 rfl rfl) ?_
          -- r4.4 t29 := lss t25 t28
          refine ol_pure rfl (op_lss rfl rfl) ?_
          refine ol_nil ?_
          refine pq_then ?_
          refine cw_cond rfl (fun h29 => ?_) (fun h29 => ?_)
          · skip
            try simp only [decide_eq_true_eq, decide_eq_false_iff_not, Bool.not_eq_true', Bool.not_eq_false', Bool.not_eq_eq_eq_not, Bool.not_true, Bool.not_false] at h29
            have hlt : k < l.length := by omega
            obtain ⟨hoL, cs, hcl, ⟨vk, rfl, hvk, hsb⟩, hcells⟩ := h3.el hlt
            obtain ⟨oK, cK, rfl, _, _⟩ := hvk.elim
            refine cw_skip ?_
            refine pq_then ?_
            refine cw_seq ?_
            refine cw_block ?_
            refine cw_seq ?_
            refine cw_region ?_
            -- r6.0 t32 := fieldAddr [31, 0] t3
            refine ol_pure rfl (op_fieldAddr fld_31_0 rfl) ?_
            -- r6.1 t33 := load [28] t32
            refine ol_load rfl (op_load1 one_28 rfl (fun w hw => (hw.bcell (i := 0) rfl).trans rfl)) hS ?_
            -- r6.2 t34 := move  t5
            refine ol_pure rfl (op_move rfl) ?_
            -- r6.3 t35 := indexAddr [28] t33 t34
            refine ol_pure rfl (op_indexN sl_28 rfl rfl (by omega) (by assumption)) ?_
            -- r6.4 t36 := fieldAddr [44, 1] t35
            refine ol_pure rfl (op_fieldAddr fld_44_1 rfl) ?_
            -- r6.5 t37 := load [29] t36
            refine ol_load rfl (op_load1 one_29 rfl (fun w hw => hw.gcell (hcells 1 _ rfl))) hS ?_
            -- r6.6 t38 := call len t37
            refine ol_pure rfl (op_len sl_29 rfl rfl) ?_
            -- r6.7 t39 := gtr t38 C100
            refine ol_pure rfl (op_gtr rfl rfl) ?_
            refine ol_nil ?_
            refine pq_then ?_
            refine cw_cond rfl (fun h39 => ?_) (fun h39 => ?_)
            · skip
              try simp only [decide_eq_true_eq, decide_eq_false_iff_not, Bool.not_eq_true', Bool.not_eq_false', Bool.not_eq_eq_eq_not, Bool.not_true, Bool.not_false] at h39
              refine cw_seq ?_
              refine cw_region ?_
              -- r7.0 t4 := assign  Ctrue
              refine ol_pure rfl (op_assign rfl) ?_
              refine ol_nil ?_
              refine pq_then ?_
              refine cw_ret ?_
              refine pq_in_ret ?_
              refine pq_ret ?_
              refine pq_ret ?_
              refine pq_in_ret ?_
              refine pq_ret ?_
              refine ret1 rfl rfl ?_
              -- ret2 h8f h13f h19f h24f h29t h39t
              exact hS.sc_b (by rw [greatB, Pl.all_false_at (fun s : Step => decide (s.atoms.length ≤ 100)) l k hlt (decide_eq_false (by omega))]; simp)
            · skip
              try simp only [decide_eq_true_eq, decide_eq_false_iff_not, Bool.not_eq_true', Bool.not_eq_false', Bool.not_eq_eq_eq_not, Bool.not_true, Bool.not_false] at h39
              refine cw_skip ?_
              refine pq_in_normal ?_
              refine pq_then ?_
              refine cw_region ?_
              -- r5.0 t30 := move  t5
              refine ol_pure rfl (op_move rfl) ?_
              -- r5.1 t31 := add t30 C1
              refine ol_pure rfl (op_add rfl rfl (by omega) (by omega)) ?_
              -- r5.2 t5 := assign  t31
              refine ol_pure rfl (op_assign rfl) ?_
              refine ol_nil ?_
              -- end of round 1 h8f h13f h19f h24f h29t h39f
              refine pq_loop _ _ (by exact ⟨k + 1, rfl, by omega, rfl, by rw [Pl.all_take_succ _ _ _ hlt, hp, Bool.true_and]; exact decide_eq_true (by omega), hS⟩) ((Sub.cons rfl (Sub.cons rfl Sub.nil))) (by omega)
          · skip
            try simp only [decide_eq_true_eq, decide_eq_false_iff_not, Bool.not_eq_true', Bool.not_eq_false', Bool.not_eq_eq_eq_not, Bool.not_true, Bool.not_false] at h29
            refine cw_exit ?_
            refine pq_exit ?_
            refine pq_exit ?_
            refine pq_in_exit ?_
            refine pq_then ?_
            refine cw_seq ?_
            refine cw_region ?_
            -- r8.0 t4 := assign  Cfalse
            refine ol_pure rfl (op_assign rfl) ?_
            refine ol_nil ?_
            refine pq_then ?_
            refine cw_ret ?_
            refine ret1 rfl rfl ?_
            -- ret3 h8f h13f h19f h24f h29f
            exact hS.sc_b (by have e1 : decide (l.length ≤ 100) = true := decide_eq_true (by omega); have e2 : decide (hs.length ≤ 100) = true := decide_eq_true (by omega); rw [greatB, e1, e2, Pl.all_of_take (fun s : Step => decide (s.atoms.length ≤ 100)) _ _ (by omega) hp]; simp_all)
set_option maxRecDepth 100000 in
set_option maxHeartbeats 1000000 in

theorem L22_fires_c (G : GH) (w0 : World) (hG : Holds G w0) {α : Type} {E : ER α} (va vr : Value) (atoms : List α) (rs : List Rule) (h1 : RSl 1 E G va atoms) (h2 : RSl 3 ERule G vr rs) (hP : PrOk atoms.length rs) (vm : Value) (m : List Int) (h3 : RSl 1 EInt G vm m) (hm : m.length = atoms.length) :
    Calls Try.prog 24 #[.agg #[va, vr], vm] w0 (Sc w0 (.int .i64 (fireI rs m))) := by
  obtain ⟨oA, cA, rfl, hlA, hmA⟩ := h1.elim
  obtain ⟨oR, cR, rfl, hlR, hmR⟩ := h2.elim
  have hle1 := h1.le
  have hle2 := h2.le
  have hPn := hP.n_le
  have hPm := hP.m_le
  obtain ⟨oM, cM, rfl, hlM, hmM⟩ := h3.elim
  refine enter Try.func24 rfl (N := 68) rfl (Nat.le_of_ble_eq_true rfl) ?_
  have hS := SS.init hG
  refine cw_seq ?_
  refine cw_region ?_
  -- r0.0 t2 := box [25] t0
  refine ol_step rfl (op_box hS rfl rfl) ?_
  clear hS
  rintro _ w ⟨b2, rfl, hS⟩
  -- r0.1 t4 := assign  C0
  refine ol_pure rfl (op_assign rfl) ?_
  refine ol_nil ?_
  refine pq_then ?_
  refine cw_seq ?_
  refine cw_seq ?_
  refine cw_region ?_
  -- r1.0 t5 := assign  C0
  refine ol_pure rfl (op_assign rfl) ?_
  refine ol_nil ?_
  refine pq_then ?_
  refine cw_block ?_
  refine cw_loop (fun e w n => ∃ k : Nat, e = [(1, .slice oM m.length cM), (2, .pointer (some ⟨b2, 0, none⟩)), (5, .int .i64 (k : Nat))] ∧ k ≤ rs.length ∧ n = rs.length - k ∧ (∀ (i : Nat) (hi : i < rs.length), i < k → (fun r : Rule => decide (valI m r.head = 1) && firesB m r) rs[i] = false) ∧ SS G w0 G [.blk b2 25 [.slice oA atoms.length cA, .slice oR rs.length cR]] w) _ _ (by exact ⟨0, rfl, Nat.zero_le _, rfl, (fun i _ h => absurd h (Nat.not_lt_zero _)), hS⟩) ((Sub.cons rfl (Sub.cons rfl (Sub.cons rfl Sub.nil)))) ?_
  clear hS
  rintro e w n ⟨k, rfl, hk, rfl, hno, hS⟩
  refine cw_seq ?_
  refine cw_seq ?_
  refine cw_region ?_
  -- r2.0 t10 := move  t5
  refine ol_pure rfl (op_move rfl) ?_
  -- r2.1 t11 := fieldAddr [25, 1] t2
  refine ol_pure rfl (op_fieldAddr fld_25_1 rfl) ?_
  -- r2.2 t12 := load [23] t11
  refine ol_load rfl (op_load1 one_23 rfl (fun w hw => (hw.bcell (i := 0) rfl).trans rfl)) hS ?_
  -- r2.3 t13 := call len t12
  refine ol_pure rfl (op_len sl_23 rfl rfl) ?_
  -- r2.4 t14 := lss t10 t13
  refine ol_pure rfl (op_lss rfl rfl) ?_
  refine ol_nil ?_
  refine pq_then ?_
  refine cw_cond rfl (fun h14 => ?_) (fun h14 => ?_)
  · skip
    try simp only [decide_eq_true_eq, decide_eq_false_iff_not, Bool.not_eq_true', Bool.not_eq_false', Bool.not_eq_eq_eq_not, Bool.not_true, Bool.not_false] at h14
    have hlt : k < rs.length := by omega
    have hrk := (hP.rule _ (List.getElem_mem hlt)).1
    obtain ⟨hoa, cs, hcl, ⟨p, q, rfl, hp, hq, hhd⟩, hcells⟩ := h2.el hlt
    obtain ⟨op, cp, hpe, hlp, hmp⟩ := hp.elim
    obtain ⟨oq, cq, hqe, hlq, hmq⟩ := hq.elim
    subst hpe
    subst hqe
    have hple := hp.le
    have hqle := hq.le
    obtain ⟨hd, hhe⟩ := Int.eq_ofNat_of_zero_le hrk.1.1
    have hhn : hd < m.length := by have := hrk.1.2; omega
    obtain ⟨hoM, hcM, _⟩ := h3.int hhn
    have hvh : valI m rs[k].head = m[hd] := by rw [hhe]; exact val_at hhn
    refine cw_skip ?_
    refine pq_then ?_
    refine cw_seq ?_
    refine cw_block ?_
    refine cw_seq ?_
    refine cw_region ?_
    -- r4.0 t17 := fieldAddr [25, 1] t2
    refine ol_pure rfl (op_fieldAddr fld_25_1 rfl) ?_
    -- r4.1 t18 := load [23] t17
    refine ol_load rfl (op_load1 one_23 rfl (fun w hw => (hw.bcell (i := 0) rfl).trans rfl)) hS ?_
    -- r4.2 t19 := move  t5
    refine ol_pure rfl (op_move rfl) ?_
    -- r4.3 t20 := indexAddr [23] t18 t19
    refine ol_pure rfl (op_indexN sl_23 rfl rfl (by omega) (by assumption)) ?_
    -- r4.4 t21 := load [48] t20
    refine ol_load rfl (op_loadN agg_48 rfl (by rfl) (fun w hw k u hk => hw.gcell (hcells k u hk))) hS ?_
    -- r4.5 t6 := alloc [48] 
    refine ol_step rfl (op_alloc hS el_48 rfl) ?_
    clear hS
    rintro _ w ⟨b6, rfl, hS⟩
    -- r4.6 _ := store [48] t6 t21
    refine ol_step0  (op_storeN (j := 0) hS sz_48 rfl rfl rfl rfl rfl (by simp [Value.oneCell'])) ?_
    clear hS
    rintro _ w hS; (try simp only [List.nil_append, List.cons_append, List.set] at hS)
    refine ol_nil ?_
    refine pq_then ?_
    refine cw_seq ?_
    refine cw_region ?_
    -- r5.0 t22 := move  t1
    refine ol_pure rfl (op_move rfl) ?_
    -- r5.1 t23 := fieldAddr [48, 0] t6
    refine ol_pure rfl (op_fieldAddr fld_48_0 rfl) ?_
    -- r5.2 t24 := load [3] t23
    refine ol_load rfl (op_load1 one_3 rfl (fun w hw => (hw.bcell (i := 0) rfl).trans rfl)) hS ?_
    -- r5.3 t25 := indexAddr [29] t22 t24
    refine ol_pure rfl (op_indexAddr sl_29 rfl rfl (by omega) (by omega) hoM) ?_
    -- r5.4 t26 := load [3] t25
    refine ol_load rfl (op_load1 one_3 rfl (fun w hw => hw.gcell (by rw [hhe]; exact hcM))) hS ?_
    -- r5.5 t27 := eql t26 C1
    refine ol_pure rfl (op_eql rfl rfl) ?_
    -- r5.6 t7 := assign  t27
    refine ol_pure rfl (op_assign rfl) ?_
    refine ol_nil ?_
    refine pq_then ?_
    refine cw_seq ?_
    refine cw_seq ?_
    refine cw_region ?_
    -- r6.0 t8 := assign  C0
    refine ol_pure rfl (op_assign rfl) ?_
    refine ol_nil ?_
    refine pq_then ?_
    refine cw_block ?_
    refine cw_loop (fun e w n => ∃ (j : Nat) (is : Bool), e = [(1, .slice oM m.length cM), (2, .pointer (some ⟨b2, 0, none⟩)), (5, .int .i64 (k : Nat)), (6, .pointer (some ⟨b6, 0, none⟩)), (7, .bool is), (8, .int .i64 (j : Nat))] ∧ j ≤ rs[k].pos.length ∧ n = rs[k].pos.length - j ∧ is = (decide (valI m rs[k].head = 1) && (rs[k].pos.take j).all (fun a => decide (valI m a = 2))) ∧ SS G w0 G [.blk b6 48 [.int .i64 rs[k].head, .slice op rs[k].pos.length cp, .slice oq rs[k].neg.length cq], .blk b2 25 [.slice oA atoms.length cA, .slice oR rs.length cR]] w) _ _ (by exact ⟨0, decide (m[hd] = 1), rfl, Nat.zero_le _, rfl, by rw [hvh]; simp, hS⟩) ((Sub.cons rfl (Sub.cons rfl (Sub.cons rfl (Sub.cons rfl (Sub.cons rfl (Sub.cons rfl Sub.nil))))))) ?_
    clear hS
    rintro e w n ⟨j, is, rfl, hj, rfl, hi, hS⟩
    refine cw_seq ?_
    refine cw_seq ?_
    refine cw_region ?_
    -- r7.0 t28 := move  t8
    refine ol_pure rfl (op_move rfl) ?_
    -- r7.1 t29 := fieldAddr [48, 1] t6
    refine ol_pure rfl (op_fieldAddr fld_48_1 rfl) ?_
    -- r7.2 t30 := load [29] t29
    refine ol_load rfl (op_load1 one_29 rfl (fun w hw => (hw.bcell (i := 0) rfl).trans rfl)) hS ?_
    -- r7.3 t31 := call len t30
    refine ol_pure rfl (op_len sl_29 rfl rfl) ?_
    -- r7.4 t32 := lss t28 t31
    refine ol_pure rfl (op_lss rfl rfl) ?_
    refine ol_nil ?_
    refine pq_then ?_
    refine cw_cond rfl (fun h32 => ?_) (fun h32 => ?_)
    · skip
      try simp only [decide_eq_true_eq, decide_eq_false_iff_not, Bool.not_eq_true', Bool.not_eq_false', Bool.not_eq_eq_eq_not, Bool.not_true, Bool.not_false] at h32
      have hlj : j < rs[k].pos.length := by omega
      obtain ⟨hoj, hcj, hbj⟩ := hp.int hlj
      have hrj := hrk.2.1 _ (List.getElem_mem hlj)
      obtain ⟨xj, hxj⟩ := Int.eq_ofNat_of_zero_le hrj.1
      have hnj : xj < m.length := by omega
      rw [hxj] at hcj
      obtain ⟨hoM, hcMj, _⟩ := h3.int hnj
      have hvj : valI m rs[k].pos[j] = m[xj] := by rw [hxj]; exact val_at hnj
      refine cw_skip ?_
      refine pq_then ?_
      refine cw_seq ?_
      refine cw_block ?_
      refine cw_region ?_
      -- r9.0 t35 := move  t7
      refine ol_pure rfl (op_move rfl) ?_
      -- r9.1 t36 := move  t35
      refine ol_pure rfl (op_move rfl) ?_
      refine ol_split (fun h36 => ?_) (fun h36 => ?_)
      · skip
        try simp only [decide_eq_true_eq, decide_eq_false_iff_not, Bool.not_eq_true', Bool.not_eq_false', Bool.not_eq_eq_eq_not, Bool.not_true, Bool.not_false] at h36
        -- r9.2 t37 := move  t1 ?1=True
        refine ol_guard_pure rfl rfl rfl (op_move rfl) ?_
        -- r9.3 t38 := fieldAddr [48, 1] t6 ?1=True
        refine ol_guard_pure rfl rfl rfl (op_fieldAddr fld_48_1 rfl) ?_
        -- r9.4 t39 := load [29] t38 ?1=True
        refine ol_guard_load rfl rfl rfl (op_load1 one_29 rfl (fun w hw => (hw.bcell (i := 0) rfl).trans rfl)) hS ?_
        -- r9.5 t40 := move  t8 ?1=True
        refine ol_guard_pure rfl rfl rfl (op_move rfl) ?_
        -- r9.6 t41 := indexAddr [29] t39 t40 ?1=True
        refine ol_guard_pure rfl rfl rfl (op_indexN sl_29 rfl rfl (by omega) (by assumption)) ?_
        -- r9.7 t42 := load [3] t41 ?1=True
        refine ol_guard_load rfl rfl rfl (op_load1 one_3 rfl (fun w hw => hw.gcell hcj)) hS ?_
        -- r9.8 t43 := indexAddr [29] t37 t42 ?1=True
        refine ol_guard_pure rfl rfl rfl (op_indexN sl_29 rfl rfl (by omega) hoM) ?_
        -- r9.9 t44 := load [3] t43 ?1=True
        refine ol_guard_load rfl rfl rfl (op_load1 one_3 rfl (fun w hw => hw.gcell hcMj)) hS ?_
        -- r9.10 t45 := eql t44 C2 ?1=True
        refine ol_guard_pure rfl rfl rfl (op_eql rfl rfl) ?_
        -- r9.11 t46 := pick  t36 t45 Cfalse
        refine ol_pure rfl (op_pick_t rfl rfl) ?_
        -- r9.12 t7 := assign  t46
        refine ol_pure rfl (op_assign rfl) ?_
        refine ol_nil ?_
        refine pq_in_normal ?_
        refine pq_then ?_
        refine cw_region ?_
        -- r8.0 t33 := move  t8
        refine ol_pure rfl (op_move rfl) ?_
        -- r8.1 t34 := add t33 C1
        refine ol_pure rfl (op_add rfl rfl (by omega) (by omega)) ?_
        -- r8.2 t8 := assign  t34
        refine ol_pure rfl (op_assign rfl) ?_
        refine ol_nil ?_
        -- end of round 2 h14t h32t h36t
        refine pq_loop _ _ (by exact ⟨j + 1, decide (m[xj] = 2), rfl, by omega, rfl, by rw [Pl.all_take_succ _ _ _ hlj, ← Bool.and_assoc, ← hi, hvj, h36]; rfl, hS⟩) ((Sub.cons rfl (Sub.cons rfl (Sub.cons rfl (Sub.cons rfl (Sub.cons rfl (Sub.cons rfl Sub.nil))))))) (by omega)
      · skip
        try simp only [decide_eq_true_eq, decide_eq_false_iff_not, Bool.not_eq_true', Bool.not_eq_false', Bool.not_eq_eq_eq_not, Bool.not_true, Bool.not_false] at h36
        refine ol_guard_no rfl rfl rfl rfl ?_
        refine ol_guard_no rfl rfl rfl rfl ?_
        refine ol_guard_no rfl rfl rfl rfl ?_
        refine ol_guard_no rfl rfl rfl rfl ?_
        refine ol_guard_no rfl rfl rfl rfl ?_
        refine ol_guard_no rfl rfl rfl rfl ?_
        refine ol_guard_no rfl rfl rfl rfl ?_
        refine ol_guard_no rfl rfl rfl rfl ?_
        refine ol_guard_no rfl rfl rfl rfl ?_
        -- r9.11 t46 := pick  t36 t45 Cfalse
        refine ol_pure rfl (op_pick_f rfl rfl) ?_
        -- r9.12 t7 := assign  t46
        refine ol_pure rfl (op_assign rfl) ?_
        refine ol_nil ?_
        refine pq_in_normal ?_
        refine pq_then ?_
        refine cw_region ?_
        -- r8.0 t33 := move  t8
        refine ol_pure rfl (op_move rfl) ?_
        -- r8.1 t34 := add t33 C1
        refine ol_pure rfl (op_add rfl rfl (by omega) (by omega)) ?_
        -- r8.2 t8 := assign  t34
        refine ol_pure rfl (op_assign rfl) ?_
        refine ol_nil ?_
        -- end of round 2 h14t h32t h36f
        refine pq_loop _ _ (by exact ⟨j + 1, false, rfl, by omega, rfl, by rw [Pl.all_take_succ _ _ _ hlj, ← Bool.and_assoc, ← hi, h36]; rfl, hS⟩) ((Sub.cons rfl (Sub.cons rfl (Sub.cons rfl (Sub.cons rfl (Sub.cons rfl (Sub.cons rfl Sub.nil))))))) (by omega)
    · skip
      try simp only [decide_eq_true_eq, decide_eq_false_iff_not, Bool.not_eq_true', Bool.not_eq_false', Bool.not_eq_eq_eq_not, Bool.not_true, Bool.not_false] at h32
      rw [List.take_of_length_le (show rs[k].pos.length ≤ j by omega)] at hi
      replace hi : is = (decide (valI m rs[k].head = 1) && areB m rs[k].pos 2) := hi
      refine cw_exit ?_
      refine pq_exit ?_
      refine pq_exit ?_
      refine pq_in_exit ?_
      refine pq_then ?_
      refine cw_seq ?_
      refine cw_seq ?_
      refine cw_region ?_
      -- r10.0 t9 := assign  C0
      refine ol_pure rfl (op_assign rfl) ?_
      refine ol_nil ?_
      refine pq_then ?_
      refine cw_block ?_
      refine cw_loop (fun e w n => ∃ (i : Nat) (is2 : Bool), e = [(1, .slice oM m.length cM), (2, .pointer (some ⟨b2, 0, none⟩)), (5, .int .i64 (k : Nat)), (6, .pointer (some ⟨b6, 0, none⟩)), (7, .bool is2), (9, .int .i64 (i : Nat))] ∧ i ≤ rs[k].neg.length ∧ n = rs[k].neg.length - i ∧ is2 = (decide (valI m rs[k].head = 1) && areB m rs[k].pos 2 && (rs[k].neg.take i).all (fun a => decide (valI m a = 0))) ∧ SS G w0 G [.blk b6 48 [.int .i64 rs[k].head, .slice op rs[k].pos.length cp, .slice oq rs[k].neg.length cq], .blk b2 25 [.slice oA atoms.length cA, .slice oR rs.length cR]] w) _ _ (by exact ⟨0, is, rfl, Nat.zero_le _, rfl, by rw [hi]; simp, hS⟩) ((Sub.cons rfl (Sub.cons rfl (Sub.cons rfl (Sub.cons rfl (Sub.cons rfl (Sub.cons rfl Sub.nil))))))) ?_
      clear hS
      rintro e w n ⟨i, is2, rfl, hi3, rfl, hi2, hS⟩
      refine cw_seq ?_
      refine cw_seq ?_
      refine cw_region ?_
      -- r11.0 t47 := move  t9
      refine ol_pure rfl (op_move rfl) ?_
      -- r11.1 t48 := fieldAddr [48, 2] t6
      refine ol_pure rfl (op_fieldAddr fld_48_2 rfl) ?_
      -- r11.2 t49 := load [29] t48
      refine ol_load rfl (op_load1 one_29 rfl (fun w hw => (hw.bcell (i := 0) rfl).trans rfl)) hS ?_
      -- r11.3 t50 := call len t49
      refine ol_pure rfl (op_len sl_29 rfl rfl) ?_
      -- r11.4 t51 := lss t47 t50
      refine ol_pure rfl (op_lss rfl rfl) ?_
      refine ol_nil ?_
      refine pq_then ?_
      refine cw_cond rfl (fun h51 => ?_) (fun h51 => ?_)
      · skip
        try simp only [decide_eq_true_eq, decide_eq_false_iff_not, Bool.not_eq_true', Bool.not_eq_false', Bool.not_eq_eq_eq_not, Bool.not_true, Bool.not_false] at h51
        have hli : i < rs[k].neg.length := by omega
        obtain ⟨hoi, hci, hbi⟩ := hq.int hli
        have hri := hrk.2.2 _ (List.getElem_mem hli)
        obtain ⟨xi, hxi⟩ := Int.eq_ofNat_of_zero_le hri.1
        have hni : xi < m.length := by omega
        rw [hxi] at hci
        obtain ⟨hoM, hcMi, _⟩ := h3.int hni
        have hvi : valI m rs[k].neg[i] = m[xi] := by rw [hxi]; exact val_at hni
        refine cw_skip ?_
        refine pq_then ?_
        refine cw_seq ?_
        refine cw_block ?_
        refine cw_region ?_
        -- r13.0 t54 := move  t7
        refine ol_pure rfl (op_move rfl) ?_
        -- r13.1 t55 := move  t54
        refine ol_pure rfl (op_move rfl) ?_
        refine ol_split (fun h55 => ?_) (fun h55 => ?_)
        · skip
          try simp only [decide_eq_true_eq, decide_eq_false_iff_not, Bool.not_eq_true', Bool.not_eq_false', Bool.not_eq_eq_eq_not, Bool.not_true, Bool.not_false] at h55
          -- r13.2 t56 := move  t1 ?1=True
          refine ol_guard_pure rfl rfl rfl (op_move rfl) ?_
          -- r13.3 t57 := fieldAddr [48, 2] t6 ?1=True
          refine ol_guard_pure rfl rfl rfl (op_fieldAddr fld_48_2 rfl) ?_
          -- r13.4 t58 := load [29] t57 ?1=True
          refine ol_guard_load rfl rfl rfl (op_load1 one_29 rfl (fun w hw => (hw.bcell (i := 0) rfl).trans rfl)) hS ?_
          -- r13.5 t59 := move  t9 ?1=True
          refine ol_guard_pure rfl rfl rfl (op_move rfl) ?_
          -- r13.6 t60 := indexAddr [29] t58 t59 ?1=True
          refine ol_guard_pure rfl rfl rfl (op_indexN sl_29 rfl rfl (by omega) (by assumption)) ?_
          -- r13.7 t61 := load [3] t60 ?1=True
          refine ol_guard_load rfl rfl rfl (op_load1 one_3 rfl (fun w hw => hw.gcell hci)) hS ?_
          -- r13.8 t62 := indexAddr [29] t56 t61 ?1=True
          refine ol_guard_pure rfl rfl rfl (op_indexN sl_29 rfl rfl (by omega) hoM) ?_
          -- r13.9 t63 := load [3] t62 ?1=True
          refine ol_guard_load rfl rfl rfl (op_load1 one_3 rfl (fun w hw => hw.gcell hcMi)) hS ?_
          -- r13.10 t64 := eql t63 C0 ?1=True
          refine ol_guard_pure rfl rfl rfl (op_eql rfl rfl) ?_
          -- r13.11 t65 := pick  t55 t64 Cfalse
          refine ol_pure rfl (op_pick_t rfl rfl) ?_
          -- r13.12 t7 := assign  t65
          refine ol_pure rfl (op_assign rfl) ?_
          refine ol_nil ?_
          refine pq_in_normal ?_
          refine pq_then ?_
          refine cw_region ?_
          -- r12.0 t52 := move  t9
          refine ol_pure rfl (op_move rfl) ?_
          -- r12.1 t53 := add t52 C1
          refine ol_pure rfl (op_add rfl rfl (by omega) (by omega)) ?_
          -- r12.2 t9 := assign  t53
          refine ol_pure rfl (op_assign rfl) ?_
          refine ol_nil ?_
          -- end of round 3 h14t h32f h51t h55t
          refine pq_loop _ _ (by exact ⟨i + 1, decide (m[xi] = 0), rfl, by omega, rfl, by rw [Pl.all_take_succ _ _ _ hli, ← Bool.and_assoc, ← hi2, hvi, h55]; rfl, hS⟩) ((Sub.cons rfl (Sub.cons rfl (Sub.cons rfl (Sub.cons rfl (Sub.cons rfl (Sub.cons rfl Sub.nil))))))) (by omega)
        · skip
          try simp only [decide_eq_true_eq, decide_eq_false_iff_not, Bool.not_eq_true', Bool.not_eq_false', Bool.not_eq_eq_eq_not, Bool.not_true, Bool.not_false] at h55
          refine ol_guard_no rfl rfl rfl rfl ?_
          refine ol_guard_no rfl rfl rfl rfl ?_
          refine ol_guard_no rfl rfl rfl rfl ?_
          refine ol_guard_no rfl rfl rfl rfl ?_
          refine ol_guard_no rfl rfl rfl rfl ?_
          refine ol_guard_no rfl rfl rfl rfl ?_
          refine ol_guard_no rfl rfl rfl rfl ?_
          refine ol_guard_no rfl rfl rfl rfl ?_
          refine ol_guard_no rfl rfl rfl rfl ?_
          -- r13.11 t65 := pick  t55 t64 Cfalse
          refine ol_pure rfl (op_pick_f rfl rfl) ?_
          -- r13.12 t7 := assign  t65
          refine ol_pure rfl (op_assign rfl) ?_
          refine ol_nil ?_
          refine pq_in_normal ?_
          refine pq_then ?_
          refine cw_region ?_
          -- r12.0 t52 := move  t9
          refine ol_pure rfl (op_move rfl) ?_
          -- r12.1 t53 := add t52 C1
          refine ol_pure rfl (op_add rfl rfl (by omega) (by omega)) ?_
          -- r12.2 t9 := assign  t53
          refine ol_pure rfl (op_assign rfl) ?_
          refine ol_nil ?_
          -- end of round 3 h14t h32f h51t h55f
          refine pq_loop _ _ (by exact ⟨i + 1, false, rfl, by omega, rfl, by rw [Pl.all_take_succ _ _ _ hli, ← Bool.and_assoc, ← hi2, h55]; rfl, hS⟩) ((Sub.cons rfl (Sub.cons rfl (Sub.cons rfl (Sub.cons rfl (Sub.cons rfl (Sub.cons rfl Sub.nil))))))) (by omega)
      · skip
        try simp only [decide_eq_true_eq, decide_eq_false_iff_not, Bool.not_eq_true', Bool.not_eq_false', Bool.not_eq_eq_eq_not, Bool.not_true, Bool.not_false] at h51
        rw [List.take_of_length_le (show rs[k].neg.length ≤ i by omega)] at hi2
        replace hi2 : is2 = (decide (valI m rs[k].head = 1) && firesB m rs[k]) := by rw [hi2, Bool.and_assoc]; rfl
        refine cw_exit ?_
        refine pq_exit ?_
        refine pq_exit ?_
        refine pq_in_exit ?_
        refine pq_then ?_
        refine cw_seq ?_
        refine cw_region ?_
        -- r14.0 t66 := move  t7
        refine ol_pure rfl (op_move rfl) ?_
        refine ol_nil ?_
        refine pq_then ?_
        refine cw_cond rfl (fun h66 => ?_) (fun h66 => ?_)
        · skip
          try simp only [decide_eq_true_eq, decide_eq_false_iff_not, Bool.not_eq_true', Bool.not_eq_false', Bool.not_eq_eq_eq_not, Bool.not_true, Bool.not_false] at h66
          refine cw_seq ?_
          refine cw_region ?_
          -- r15.0 t67 := move  t5
          refine ol_pure rfl (op_move rfl) ?_
          -- r15.1 t4 := assign  t67
          refine ol_pure rfl (op_assign rfl) ?_
          refine ol_nil ?_
          refine pq_then ?_
          refine cw_ret ?_
          refine pq_in_ret ?_
          refine pq_ret ?_
          refine pq_ret ?_
          refine pq_in_ret ?_
          refine pq_ret ?_
          refine ret1 rfl rfl ?_
          -- ret1 h14t h32f h51f h66t
          exact hS.sc_i (findP_at hlt (by rw [← hi2]; exact h66) hno).symm
        · skip
          try simp only [decide_eq_true_eq, decide_eq_false_iff_not, Bool.not_eq_true', Bool.not_eq_false', Bool.not_eq_eq_eq_not, Bool.not_true, Bool.not_false] at h66
          refine cw_skip ?_
          refine pq_in_normal ?_
          refine pq_then ?_
          refine cw_region ?_
          -- r3.0 t15 := move  t5
          refine ol_pure rfl (op_move rfl) ?_
          -- r3.1 t16 := add t15 C1
          refine ol_pure rfl (op_add rfl rfl (by omega) (by omega)) ?_
          -- r3.2 t5 := assign  t16
          refine ol_pure rfl (op_assign rfl) ?_
          refine ol_nil ?_
          -- end of round 1 h14t h32f h51f h66f
          refine pq_loop _ _ (by exact (by replace hS := SS.drop [] hS; exact ⟨k + 1, rfl, by omega, rfl, (fun i hi hik => by rcases Nat.lt_succ_iff_lt_or_eq.1 hik with hh | rfl; exact hno i hi hh; exact hi2.symm.trans h66), hS⟩)) ((Sub.cons rfl (Sub.cons rfl (Sub.cons rfl Sub.nil)))) (by omega)
  · skip
    try simp only [decide_eq_true_eq, decide_eq_false_iff_not, Bool.not_eq_true', Bool.not_eq_false', Bool.not_eq_eq_eq_not, Bool.not_true, Bool.not_false] at h14
    refine cw_exit ?_
    refine pq_exit ?_
    refine pq_exit ?_
    refine pq_in_exit ?_
    refine pq_then ?_
    refine cw_seq ?_
    refine cw_region ?_
    -- r16.0 t4 := assign  C-1
    refine ol_pure rfl (op_assign rfl) ?_
    refine ol_nil ?_
    refine pq_then ?_
    refine cw_ret ?_
    refine ret1 rfl rfl ?_
    -- ret2 h14f
    exact hS.sc_i (findP_none (by omega) hno).symm
set_option maxRecDepth 100000 in
set_option maxHeartbeats 400000 in

theorem L22_open_c (G : GH) (w0 : World) (hG : Holds G w0) (vm : Value) (m : List Int) (h3 : RSl 1 EInt G vm m)(v : Value) (l : List Int) (h4 : RSl 1 EInt G v l) (hn : l.length ≤ 1000000) :
    Calls Try.prog 25 #[vm, v] w0 (Rt noG w0 (fun G v => RSl 1 EInt G v (openF m l))) := by
  obtain ⟨oM, cM, rfl, hlM, hmM⟩ := h3.elim
  obtain ⟨oL, cL, rfl, hlL, hmL⟩ := h4.elim
  refine enter Try.func25 rfl (N := 46) rfl (Nat.le_of_ble_eq_true rfl) ?_
  have hS := SS.init hG
  refine cw_seq ?_
  refine cw_region ?_
  -- r0.0 t4 := assign  C(slice (none Addr) 0 0)
  refine ol_pure rfl (op_assign rfl) ?_
  refine ol_nil ?_
  refine pq_then ?_
  refine cw_seq ?_
  refine cw_region ?_
  -- r1.0 t7 := buildSlice [29, 0] 
  refine ol_step rfl (op_buildSlice (el := 3) (is := []) (xs := []) (sz := 1) (cs := []) hS rfl rfl (fun w => by kernel_rfl) rfl (by decide)) ?_
  clear hS
  rintro _ w ⟨o5, rfl, hS⟩
  -- r1.1 t5 := assign  t7
  refine ol_pure rfl (op_assign rfl) ?_
  refine ol_nil ?_
  refine pq_then ?_
  refine cw_seq ?_
  refine cw_seq ?_
  refine cw_region ?_
  -- r2.0 t6 := assign  C0
  refine ol_pure rfl (op_assign rfl) ?_
  refine ol_nil ?_
  refine pq_then ?_
  refine cw_block ?_
  refine cw_loop (fun e w n => ∃ k o5 l5 c5, e = [(0, .slice oM m.length cM), (1, .slice oL l.length cL), (5, .slice o5 l5 c5), (6, .int .i64 (k : Nat))] ∧ k ≤ l.length ∧ n = l.length - k ∧ l5 = ((l.take k).filter (fun a : Int => decide (0 ≤ a) && decide (a < (m.length : Int)) && decide (valI m a = 1))).length ∧ SS G w0 G [.row o5 l5 c5 3 1 (((l.take k).filter (fun a : Int => decide (0 ≤ a) && decide (a < (m.length : Int)) && decide (valI m a = 1))).map (Value.int .i64))] w) _ _ (by exact ⟨0, o5, 0, _, rfl, Nat.zero_le _, rfl, rfl, hS⟩) ((Sub.cons rfl (Sub.cons rfl (Sub.cons rfl (Sub.cons rfl Sub.nil))))) ?_
  clear hS
  rintro e w n ⟨k, o5, l5, c5, rfl, hk, rfl, hl5, hS⟩
  refine cw_seq ?_
  refine cw_seq ?_
  refine cw_region ?_
  -- r3.0 t8 := move  t6
  refine ol_pure rfl (op_move rfl) ?_
  -- r3.1 t9 := move  t1
  refine ol_pure rfl (op_move rfl) ?_
  -- r3.2 t10 := call len t9
  refine ol_pure rfl (op_len sl_29 rfl rfl) ?_
  -- r3.3 t11 := lss t8 t10
  refine ol_pure rfl (op_lss rfl rfl) ?_
  refine ol_nil ?_
  refine pq_then ?_
  refine cw_cond rfl (fun h11 => ?_) (fun h11 => ?_)
  · skip
    try simp only [decide_eq_true_eq, decide_eq_false_iff_not, Bool.not_eq_true', Bool.not_eq_false', Bool.not_eq_eq_eq_not, Bool.not_true, Bool.not_false] at h11
    have hlt : k < l.length := by omega
    obtain ⟨hoL, hcL, hbL⟩ := h4.int hlt
    have hfl := filter_take_len (fun a : Int => decide (0 ≤ a) && decide (a < (m.length : Int)) && decide (valI m a = 1)) l k
    refine cw_skip ?_
    refine pq_then ?_
    refine cw_seq ?_
    refine cw_block ?_
    refine cw_seq ?_
    refine cw_region ?_
    -- r5.0 t14 := move  t1
    refine ol_pure rfl (op_move rfl) ?_
    -- r5.1 t15 := move  t6
    refine ol_pure rfl (op_move rfl) ?_
    -- r5.2 t16 := indexAddr [29] t14 t15
    refine ol_pure rfl (op_indexN sl_29 rfl rfl (by omega) (by assumption)) ?_
    -- r5.3 t17 := load [3] t16
    refine ol_load rfl (op_load1 one_3 rfl (fun w hw => hw.gcell hcL)) hS ?_
    -- r5.4 t18 := geq t17 C0
    refine ol_pure rfl (op_geq rfl rfl) ?_
    -- r5.5 t19 := move  t18
    refine ol_pure rfl (op_move rfl) ?_
    refine ol_split (fun h19 => ?_) (fun h19 => ?_)
    · skip
      try simp only [decide_eq_true_eq, decide_eq_false_iff_not, Bool.not_eq_true', Bool.not_eq_false', Bool.not_eq_eq_eq_not, Bool.not_true, Bool.not_false] at h19
      -- r5.6 t20 := move  t1 ?5=True
      refine ol_guard_pure rfl rfl rfl (op_move rfl) ?_
      -- r5.7 t21 := move  t6 ?5=True
      refine ol_guard_pure rfl rfl rfl (op_move rfl) ?_
      -- r5.8 t22 := indexAddr [29] t20 t21 ?5=True
      refine ol_guard_pure rfl rfl rfl (op_indexN sl_29 rfl rfl (by omega) (by assumption)) ?_
      -- r5.9 t23 := load [3] t22 ?5=True
      refine ol_guard_load rfl rfl rfl (op_load1 one_3 rfl (fun w hw => hw.gcell hcL)) hS ?_
      -- r5.10 t24 := move  t0 ?5=True
      refine ol_guard_pure rfl rfl rfl (op_move rfl) ?_
      -- r5.11 t25 := call len t24 ?5=True
      refine ol_guard_pure rfl rfl rfl (op_len sl_29 rfl rfl) ?_
      -- r5.12 t26 := lss t23 t25 ?5=True
      refine ol_guard_pure rfl rfl rfl (op_lss rfl rfl) ?_
      -- r5.13 t27 := pick  t19 t26 Cfalse
      refine ol_pure rfl (op_pick_t rfl rfl) ?_
      -- r5.14 t28 := move  t27
      refine ol_pure rfl (op_move rfl) ?_
      refine ol_split (fun h28 => ?_) (fun h28 => ?_)
      · skip
        try simp only [decide_eq_true_eq, decide_eq_false_iff_not, Bool.not_eq_true', Bool.not_eq_false', Bool.not_eq_eq_eq_not, Bool.not_true, Bool.not_false] at h28
        obtain ⟨x, hx⟩ := Int.eq_ofNat_of_zero_le (show 0 ≤ l[k] by omega)
        have hxn : x < m.length := by omega
        obtain ⟨hoM, hcM, _⟩ := h3.int hxn
        have hvx : valI m l[k] = m[x] := by rw [hx]; exact val_at hxn
        -- r5.15 t29 := move  t0 ?14=True
        refine ol_guard_pure rfl rfl rfl (op_move rfl) ?_
        -- r5.16 t30 := move  t1 ?14=True
        refine ol_guard_pure rfl rfl rfl (op_move rfl) ?_
        -- r5.17 t31 := move  t6 ?14=True
        refine ol_guard_pure rfl rfl rfl (op_move rfl) ?_
        -- r5.18 t32 := indexAddr [29] t30 t31 ?14=True
        refine ol_guard_pure rfl rfl rfl (op_indexN sl_29 rfl rfl (by omega) (by assumption)) ?_
        -- r5.19 t33 := load [3] t32 ?14=True
        refine ol_guard_load rfl rfl rfl (op_load1 one_3 rfl (fun w hw => hw.gcell hcL)) hS ?_
        -- r5.20 t34 := indexAddr [29] t29 t33 ?14=True
        refine ol_guard_pure rfl rfl rfl (op_indexAddr sl_29 rfl rfl (by omega) (by omega) hoM) ?_
        -- r5.21 t35 := load [3] t34 ?14=True
        refine ol_guard_load rfl rfl rfl (op_load1 one_3 rfl (fun w hw => hw.gcell (by rw [hx]; exact hcM))) hS ?_
        -- r5.22 t36 := eql t35 C1 ?14=True
        refine ol_guard_pure rfl rfl rfl (op_eql rfl rfl) ?_
        -- r5.23 t37 := pick  t28 t36 Cfalse
        refine ol_pure rfl (op_pick_t rfl rfl) ?_
        refine ol_nil ?_
        refine pq_then ?_
        refine cw_cond rfl (fun h37 => ?_) (fun h37 => ?_)
        · skip
          try simp only [decide_eq_true_eq, decide_eq_false_iff_not, Bool.not_eq_true', Bool.not_eq_false', Bool.not_eq_eq_eq_not, Bool.not_true, Bool.not_false] at h37
          refine cw_region ?_
          -- r6.0 t38 := move  t5
          refine ol_pure rfl (op_move rfl) ?_
          -- r6.1 t39 := move  t1
          refine ol_pure rfl (op_move rfl) ?_
          -- r6.2 t40 := move  t6
          refine ol_pure rfl (op_move rfl) ?_
          -- r6.3 t41 := indexAddr [29] t39 t40
          refine ol_pure rfl (op_indexN sl_29 rfl rfl (by omega) (by assumption)) ?_
          -- r6.4 t42 := load [3] t41
          refine ol_load rfl (op_load1 one_3 rfl (fun w hw => hw.gcell hcL)) hS ?_
          -- r6.5 t43 := buildSlice [29, 1] 0:t42
          refine ol_step rfl (op_buildSlice (el := 3) (is := [0]) (xs := [.tmp 42]) (sz := 1) (cs := [.int .i64 l[k]]) hS rfl rfl (fun w => by kernel_rfl) rfl (by decide)) ?_
          clear hS
          rintro _ w ⟨s43, rfl, hS⟩
          -- r6.6 t44 := call append t38 t43
          refine ol_step rfl (op_append (j := 1) hS sl_29 el_3 rfl rfl rfl rfl rfl rfl (by decide) (hS.news (j := 0) rfl) (by simp [Value.oneCell']) (by omega) (by unfold maxLen; omega)) ?_
          clear hS
          rintro _ w ⟨o5n, c_o5n, rfl, hS⟩; (try simp only [List.nil_append, List.cons_append, List.set] at hS); replace hS := SS.drop [] hS; (try simp only [List.nil_append, List.cons_append] at hS)
          -- r6.7 t5 := assign  t44
          refine ol_pure rfl (op_assign rfl) ?_
          refine ol_nil ?_
          refine pq_in_normal ?_
          refine pq_then ?_
          refine cw_region ?_
          -- r4.0 t12 := move  t6
          refine ol_pure rfl (op_move rfl) ?_
          -- r4.1 t13 := add t12 C1
          refine ol_pure rfl (op_add rfl rfl (by omega) (by omega)) ?_
          -- r4.2 t6 := assign  t13
          refine ol_pure rfl (op_assign rfl) ?_
          refine ol_nil ?_
          -- end of round 1 h11t h19t h28t h37t
          refine pq_loop _ _ (by exact (by
              have he := filter_take_t (fun a : Int => decide (0 ≤ a) && decide (a < (m.length : Int)) && decide (valI m a = 1)) l k hlt (by rw [hvx]; simp; omega)
              exact ⟨k + 1, o5n, l5 + 1, c_o5n, rfl, by omega, rfl, by rw [he]; simp [hl5], by rw [he]; simpa using hS⟩)) ((Sub.cons rfl (Sub.cons rfl (Sub.cons rfl (Sub.cons rfl Sub.nil))))) (by omega)
        · skip
          try simp only [decide_eq_true_eq, decide_eq_false_iff_not, Bool.not_eq_true', Bool.not_eq_false', Bool.not_eq_eq_eq_not, Bool.not_true, Bool.not_false] at h37
          refine cw_skip ?_
          refine pq_in_normal ?_
          refine pq_then ?_
          refine cw_region ?_
          -- r4.0 t12 := move  t6
          refine ol_pure rfl (op_move rfl) ?_
          -- r4.1 t13 := add t12 C1
          refine ol_pure rfl (op_add rfl rfl (by omega) (by omega)) ?_
          -- r4.2 t6 := assign  t13
          refine ol_pure rfl (op_assign rfl) ?_
          refine ol_nil ?_
          -- end of round 1 h11t h19t h28t h37f
          refine pq_loop _ _ (by exact (by
              have he := filter_take_f (fun a : Int => decide (0 ≤ a) && decide (a < (m.length : Int)) && decide (valI m a = 1)) l k hlt (by rw [hvx]; simp; omega)
              exact ⟨k + 1, o5, l5, c5, rfl, by omega, rfl, by rw [he]; exact hl5, by rw [he]; exact hS⟩)) ((Sub.cons rfl (Sub.cons rfl (Sub.cons rfl (Sub.cons rfl Sub.nil))))) (by omega)
      · skip
        try simp only [decide_eq_true_eq, decide_eq_false_iff_not, Bool.not_eq_true', Bool.not_eq_false', Bool.not_eq_eq_eq_not, Bool.not_true, Bool.not_false] at h28
        refine ol_guard_no rfl rfl rfl rfl ?_
        refine ol_guard_no rfl rfl rfl rfl ?_
        refine ol_guard_no rfl rfl rfl rfl ?_
        refine ol_guard_no rfl rfl rfl rfl ?_
        refine ol_guard_no rfl rfl rfl rfl ?_
        refine ol_guard_no rfl rfl rfl rfl ?_
        refine ol_guard_no rfl rfl rfl rfl ?_
        refine ol_guard_no rfl rfl rfl rfl ?_
        -- r5.23 t37 := pick  t28 t36 Cfalse
        refine ol_pure rfl (op_pick_f rfl rfl) ?_
        refine ol_nil ?_
        refine pq_then ?_
        refine cw_cond_f rfl ?_
        refine cw_skip ?_
        refine pq_in_normal ?_
        refine pq_then ?_
        refine cw_region ?_
        -- r4.0 t12 := move  t6
        refine ol_pure rfl (op_move rfl) ?_
        -- r4.1 t13 := add t12 C1
        refine ol_pure rfl (op_add rfl rfl (by omega) (by omega)) ?_
        -- r4.2 t6 := assign  t13
        refine ol_pure rfl (op_assign rfl) ?_
        refine ol_nil ?_
        -- end of round 1 h11t h19t h28f
        refine pq_loop _ _ (by exact (by
            have he := filter_take_f (fun a : Int => decide (0 ≤ a) && decide (a < (m.length : Int)) && decide (valI m a = 1)) l k hlt (by simp; omega)
            exact ⟨k + 1, o5, l5, c5, rfl, by omega, rfl, by rw [he]; exact hl5, by rw [he]; exact hS⟩)) ((Sub.cons rfl (Sub.cons rfl (Sub.cons rfl (Sub.cons rfl Sub.nil))))) (by omega)
    · skip
      try simp only [decide_eq_true_eq, decide_eq_false_iff_not, Bool.not_eq_true', Bool.not_eq_false', Bool.not_eq_eq_eq_not, Bool.not_true, Bool.not_false] at h19
      refine ol_guard_no rfl rfl rfl rfl ?_
      refine ol_guard_no rfl rfl rfl rfl ?_
      refine ol_guard_no rfl rfl rfl rfl ?_
      refine ol_guard_no rfl rfl rfl rfl ?_
      refine ol_guard_no rfl rfl rfl rfl ?_
      refine ol_guard_no rfl rfl rfl rfl ?_
      refine ol_guard_no rfl rfl rfl rfl ?_
      -- r5.13 t27 := pick  t19 t26 Cfalse
      refine ol_pure rfl (op_pick_f rfl rfl) ?_
      -- r5.14 t28 := move  t27
      refine ol_pure rfl (op_move rfl) ?_
      refine ol_guard_no rfl rfl rfl rfl ?_
      refine ol_guard_no rfl rfl rfl rfl ?_
      refine ol_guard_no rfl rfl rfl rfl ?_
      refine ol_guard_no rfl rfl rfl rfl ?_
      refine ol_guard_no rfl rfl rfl rfl ?_
      refine ol_guard_no rfl rfl rfl rfl ?_
      refine ol_guard_no rfl rfl rfl rfl ?_
      refine ol_guard_no rfl rfl rfl rfl ?_
      -- r5.23 t37 := pick  t28 t36 Cfalse
      refine ol_pure rfl (op_pick_f rfl rfl) ?_
      refine ol_nil ?_
      refine pq_then ?_
      refine cw_cond_f rfl ?_
      refine cw_skip ?_
      refine pq_in_normal ?_
      refine pq_then ?_
      refine cw_region ?_
      -- r4.0 t12 := move  t6
      refine ol_pure rfl (op_move rfl) ?_
      -- r4.1 t13 := add t12 C1
      refine ol_pure rfl (op_add rfl rfl (by omega) (by omega)) ?_
      -- r4.2 t6 := assign  t13
      refine ol_pure rfl (op_assign rfl) ?_
      refine ol_nil ?_
      -- end of round 1 h11t h19f
      refine pq_loop _ _ (by exact (by
          have he := filter_take_f (fun a : Int => decide (0 ≤ a) && decide (a < (m.length : Int)) && decide (valI m a = 1)) l k hlt (by simp; omega)
          exact ⟨k + 1, o5, l5, c5, rfl, by omega, rfl, by rw [he]; exact hl5, by rw [he]; exact hS⟩)) ((Sub.cons rfl (Sub.cons rfl (Sub.cons rfl (Sub.cons rfl Sub.nil))))) (by omega)
  · skip
    try simp only [decide_eq_true_eq, decide_eq_false_iff_not, Bool.not_eq_true', Bool.not_eq_false', Bool.not_eq_eq_eq_not, Bool.not_true, Bool.not_false] at h11
    refine cw_exit ?_
    refine pq_exit ?_
    refine pq_exit ?_
    refine pq_in_exit ?_
    refine pq_then ?_
    refine cw_seq ?_
    refine cw_region ?_
    -- r7.0 t45 := move  t5
    refine ol_pure rfl (op_move rfl) ?_
    -- r7.1 t4 := assign  t45
    refine ol_pure rfl (op_assign rfl) ?_
    refine ol_nil ?_
    refine pq_then ?_
    refine cw_ret ?_
    refine ret1 rfl rfl ?_
    -- ret1 h11f
    rw [List.take_of_length_le (by omega)] at hS hl5
    exact hS.rt_row [] (by decide) (Rows.of_map (fun y hy => ⟨rfl, h4.bnd y (List.mem_filter.1 hy).1⟩)) EInt.mono hl5
set_option maxRecDepth 100000 in
set_option maxHeartbeats 1000000 in

theorem L22_supports_c (G : GH) (w0 : World) (hG : Holds G w0) (vm : Value) (m : List Int) (h3 : RSl 1 EInt G vm m)(r : Rule) (p q : Value) (h1 : RSl 1 EInt G p r.pos) (h2 : RSl 1 EInt G q r.neg) (hr : RuleOk m.length r) (u : Value) (heads : List Int) (h4 : RSl 1 EInt G u heads) :
    Calls Try.prog 33 #[vm, .agg #[.int .i64 r.head, p, q], u] w0 (Sc w0 (.bool (supW m r heads))) := by
  obtain ⟨oM, cM, rfl, hlM, hmM⟩ := h3.elim
  obtain ⟨op, cp, rfl, hlp, hmp⟩ := h1.elim
  obtain ⟨oq, cq, rfl, hlq, hmq⟩ := h2.elim
  have hple := h1.le
  have hqle := h2.le
  obtain ⟨hd, hhe⟩ := Int.eq_ofNat_of_zero_le hr.1.1
  have hhn : hd < m.length := by have := hr.1.2; omega
  have hhr := hr.1
  obtain ⟨hoM, hcM, _⟩ := h3.int hhn
  have hvh : valI m r.head = m[hd] := by rw [hhe]; exact val_at hhn
  refine enter Try.func33 rfl (N := 63) rfl (Nat.le_of_ble_eq_true rfl) ?_
  have hS := SS.init hG
  refine cw_seq ?_
  refine cw_region ?_
  -- r0.0 t4 := box [48] t1
  refine ol_step rfl (op_box hS rfl rfl) ?_
  clear hS
  rintro _ w ⟨b4, rfl, hS⟩
  -- r0.1 t6 := assign  Cfalse
  refine ol_pure rfl (op_assign rfl) ?_
  refine ol_nil ?_
  refine pq_then ?_
  refine cw_seq ?_
  refine cw_seq ?_
  refine cw_region ?_
  -- r1.0 t9 := move  t0
  refine ol_pure rfl (op_move rfl) ?_
  -- r1.1 t10 := fieldAddr [48, 0] t4
  refine ol_pure rfl (op_fieldAddr fld_48_0 rfl) ?_
  -- r1.2 t11 := load [3] t10
  refine ol_load rfl (op_load1 one_3 rfl (fun w hw => (hw.bcell (i := 0) rfl).trans rfl)) hS ?_
  -- r1.3 t12 := indexAddr [29] t9 t11
  refine ol_pure rfl (op_indexAddr sl_29 rfl rfl (by omega) (by omega) hoM) ?_
  -- r1.4 t13 := load [3] t12
  refine ol_load rfl (op_load1 one_3 rfl (fun w hw => hw.gcell (by rw [hhe]; exact hcM))) hS ?_
  -- r1.5 t14 := neq t13 C1
  refine ol_pure rfl (op_neq rfl rfl) ?_
  -- r1.6 t15 := move  t14
  refine ol_pure rfl (op_move rfl) ?_
  refine ol_split (fun h15 => ?_) (fun h15 => ?_)
  · skip
    try simp only [decide_eq_true_eq, decide_eq_false_iff_not, Bool.not_eq_true', Bool.not_eq_false', Bool.not_eq_eq_eq_not, Bool.not_true, Bool.not_false] at h15
    refine ol_guard_no rfl rfl rfl rfl ?_
    refine ol_guard_no rfl rfl rfl rfl ?_
    refine ol_guard_no rfl rfl rfl rfl ?_
    refine ol_guard_no rfl rfl rfl rfl ?_
    -- r1.11 t20 := pick  t15 Ctrue t19
    refine ol_pure rfl (op_pick_t rfl rfl) ?_
    refine ol_nil ?_
    refine pq_then ?_
    refine cw_cond_t rfl ?_
    refine cw_seq ?_
    refine cw_region ?_
    -- r2.0 t6 := assign  Cfalse
    refine ol_pure rfl (op_assign rfl) ?_
    refine ol_nil ?_
    refine pq_then ?_
    refine cw_ret ?_
    refine pq_ret ?_
    refine ret1 rfl rfl ?_
    -- ret1 h15t
    exact hS.sc_b (by unfold supW; rw [hvh]; simp_all)
  · skip
    try simp only [decide_eq_true_eq, decide_eq_false_iff_not, Bool.not_eq_true', Bool.not_eq_false', Bool.not_eq_eq_eq_not, Bool.not_true, Bool.not_false] at h15
    -- r1.7 t16 := move  t2 ?6=False
    refine ol_guard_pure rfl rfl rfl (op_move rfl) ?_
    -- r1.8 t17 := fieldAddr [48, 0] t4 ?6=False
    refine ol_guard_pure rfl rfl rfl (op_fieldAddr fld_48_0 rfl) ?_
    -- r1.9 t18 := load [3] t17 ?6=False
    refine ol_guard_load rfl rfl rfl (op_load1 one_3 rfl (fun w hw => (hw.bcell (i := 0) rfl).trans rfl)) hS ?_
    -- r1.10 t19 := call f55 t16 t18 ?6=False
    refine ol_guard_step rfl rfl rfl (op_call_sc hS cf_55 rfl (R01_In_c G _ hS.hold _ heads r.head h4)) ?_
    clear hS
    rintro _ w ⟨rfl, hS⟩
    -- r1.11 t20 := pick  t15 Ctrue t19
    refine ol_pure rfl (op_pick_f rfl rfl) ?_
    refine ol_nil ?_
    refine pq_then ?_
    refine cw_cond rfl (fun h20 => ?_) (fun h20 => ?_)
    · skip
      try simp only [decide_eq_true_eq, decide_eq_false_iff_not, Bool.not_eq_true', Bool.not_eq_false', Bool.not_eq_eq_eq_not, Bool.not_true, Bool.not_false] at h20
      refine cw_seq ?_
      refine cw_region ?_
      -- r2.0 t6 := assign  Cfalse
      refine ol_pure rfl (op_assign rfl) ?_
      refine ol_nil ?_
      refine pq_then ?_
      refine cw_ret ?_
      refine pq_ret ?_
      refine ret1 rfl rfl ?_
      -- ret1 h15f h20t
      exact hS.sc_b (by unfold supW; rw [hvh]; simp_all)
    · skip
      try simp only [decide_eq_true_eq, decide_eq_false_iff_not, Bool.not_eq_true', Bool.not_eq_false', Bool.not_eq_eq_eq_not, Bool.not_true, Bool.not_false] at h20
      have hfst : (decide (valI m r.head = 1) && !decide (r.head ∈ heads)) = true := by rw [hvh]; simp_all
      refine cw_skip ?_
      refine pq_then ?_
      refine cw_seq ?_
      refine cw_seq ?_
      refine cw_region ?_
      -- r3.0 t7 := assign  C0
      refine ol_pure rfl (op_assign rfl) ?_
      refine ol_nil ?_
      refine pq_then ?_
      refine cw_block ?_
      refine cw_loop (fun e w n => ∃ j : Nat, e = [(0, .slice oM m.length cM), (2, u), (4, .pointer (some ⟨b4, 0, none⟩)), (7, .int .i64 (j : Nat))] ∧ j ≤ r.pos.length ∧ n = r.pos.length - j ∧ (r.pos.take j).all (fun p => decide (valI m p = 2) || decide (p ∈ heads)) = true ∧ SS G w0 G [.blk b4 48 [.int .i64 r.head, .slice op r.pos.length cp, .slice oq r.neg.length cq]] w) _ _ (by exact ⟨0, rfl, Nat.zero_le _, rfl, rfl, hS⟩) ((Sub.cons rfl (Sub.cons rfl (Sub.cons rfl (Sub.cons rfl Sub.nil))))) ?_
      clear hS
      rintro e w n ⟨j, rfl, hj, rfl, hpa, hS⟩
      refine cw_seq ?_
      refine cw_seq ?_
      refine cw_region ?_
      -- r4.0 t21 := move  t7
      refine ol_pure rfl (op_move rfl) ?_
      -- r4.1 t22 := fieldAddr [48, 1] t4
      refine ol_pure rfl (op_fieldAddr fld_48_1 rfl) ?_
      -- r4.2 t23 := load [29] t22
      refine ol_load rfl (op_load1 one_29 rfl (fun w hw => (hw.bcell (i := 0) rfl).trans rfl)) hS ?_
      -- r4.3 t24 := call len t23
      refine ol_pure rfl (op_len sl_29 rfl rfl) ?_
      -- r4.4 t25 := lss t21 t24
      refine ol_pure rfl (op_lss rfl rfl) ?_
      refine ol_nil ?_
      refine pq_then ?_
      refine cw_cond rfl (fun h25 => ?_) (fun h25 => ?_)
      · skip
        try simp only [decide_eq_true_eq, decide_eq_false_iff_not, Bool.not_eq_true', Bool.not_eq_false', Bool.not_eq_eq_eq_not, Bool.not_true, Bool.not_false] at h25
        have hlj : j < r.pos.length := by omega
        obtain ⟨hoj, hcj, hbj⟩ := h1.int hlj
        have hrj := hr.2.1 _ (List.getElem_mem hlj)
        obtain ⟨xj, hxj⟩ := Int.eq_ofNat_of_zero_le hrj.1
        have hnj : xj < m.length := by omega
        rw [hxj] at hcj
        obtain ⟨hoM, hcMj, _⟩ := h3.int hnj
        have hvj : valI m r.pos[j] = m[xj] := by rw [hxj]; exact val_at hnj
        refine cw_skip ?_
        refine pq_then ?_
        refine cw_seq ?_
        refine cw_block ?_
        refine cw_seq ?_
        refine cw_region ?_
        -- r6.0 t28 := move  t0
        refine ol_pure rfl (op_move rfl) ?_
        -- r6.1 t29 := fieldAddr [48, 1] t4
        refine ol_pure rfl (op_fieldAddr fld_48_1 rfl) ?_
        -- r6.2 t30 := load [29] t29
        refine ol_load rfl (op_load1 one_29 rfl (fun w hw => (hw.bcell (i := 0) rfl).trans rfl)) hS ?_
        -- r6.3 t31 := move  t7
        refine ol_pure rfl (op_move rfl) ?_
        -- r6.4 t32 := indexAddr [29] t30 t31
        refine ol_pure rfl (op_indexN sl_29 rfl rfl (by omega) (by assumption)) ?_
        -- r6.5 t33 := load [3] t32
        refine ol_load rfl (op_load1 one_3 rfl (fun w hw => hw.gcell hcj)) hS ?_
        -- r6.6 t34 := indexAddr [29] t28 t33
        refine ol_pure rfl (op_indexN sl_29 rfl rfl (by omega) hoM) ?_
        -- r6.7 t35 := load [3] t34
        refine ol_load rfl (op_load1 one_3 rfl (fun w hw => hw.gcell hcMj)) hS ?_
        -- r6.8 t36 := neq t35 C2
        refine ol_pure rfl (op_neq rfl rfl) ?_
        -- r6.9 t37 := move  t36
        refine ol_pure rfl (op_move rfl) ?_
        refine ol_split (fun h37 => ?_) (fun h37 => ?_)
        · skip
          try simp only [decide_eq_true_eq, decide_eq_false_iff_not, Bool.not_eq_true', Bool.not_eq_false', Bool.not_eq_eq_eq_not, Bool.not_true, Bool.not_false] at h37
          -- r6.10 t38 := move  t2 ?9=True
          refine ol_guard_pure rfl rfl rfl (op_move rfl) ?_
          -- r6.11 t39 := fieldAddr [48, 1] t4 ?9=True
          refine ol_guard_pure rfl rfl rfl (op_fieldAddr fld_48_1 rfl) ?_
          -- r6.12 t40 := load [29] t39 ?9=True
          refine ol_guard_load rfl rfl rfl (op_load1 one_29 rfl (fun w hw => (hw.bcell (i := 0) rfl).trans rfl)) hS ?_
          -- r6.13 t41 := move  t7 ?9=True
          refine ol_guard_pure rfl rfl rfl (op_move rfl) ?_
          -- r6.14 t42 := indexAddr [29] t40 t41 ?9=True
          refine ol_guard_pure rfl rfl rfl (op_indexN sl_29 rfl rfl (by omega) (by assumption)) ?_
          -- r6.15 t43 := load [3] t42 ?9=True
          refine ol_guard_load rfl rfl rfl (op_load1 one_3 rfl (fun w hw => hw.gcell hcj)) hS ?_
          -- r6.16 t44 := call f55 t38 t43 ?9=True
          refine ol_guard_step rfl rfl rfl (op_call_sc hS cf_55 rfl ((by rw [← hxj]; exact R01_In_c G _ hS.hold _ heads r.pos[j] h4))) ?_
          clear hS
          rintro _ w ⟨rfl, hS⟩
          -- r6.17 t45 := not t44 ?9=True
          refine ol_guard_pure rfl rfl rfl (op_not rfl) ?_
          -- r6.18 t46 := pick  t37 t45 Cfalse
          refine ol_pure rfl (op_pick_t rfl rfl) ?_
          refine ol_nil ?_
          refine pq_then ?_
          refine cw_cond rfl (fun h46 => ?_) (fun h46 => ?_)
          · skip
            try simp only [decide_eq_true_eq, decide_eq_false_iff_not, Bool.not_eq_true', Bool.not_eq_false', Bool.not_eq_eq_eq_not, Bool.not_true, Bool.not_false] at h46
            refine cw_seq ?_
            refine cw_region ?_
            -- r7.0 t6 := assign  Cfalse
            refine ol_pure rfl (op_assign rfl) ?_
            refine ol_nil ?_
            refine pq_then ?_
            refine cw_ret ?_
            refine pq_in_ret ?_
            refine pq_ret ?_
            refine pq_ret ?_
            refine pq_in_ret ?_
            refine pq_ret ?_
            refine ret1 rfl rfl ?_
            -- ret2 h15f h20f h25t h37t h46t
            exact hS.sc_b (by unfold supW; rw [Pl.all_false_at (fun p => decide (valI m p = 2) || decide (p ∈ heads)) r.pos j hlj (by rw [hvj]; simp_all), Bool.and_false, Bool.false_and])
          · skip
            try simp only [decide_eq_true_eq, decide_eq_false_iff_not, Bool.not_eq_true', Bool.not_eq_false', Bool.not_eq_eq_eq_not, Bool.not_true, Bool.not_false] at h46
            refine cw_skip ?_
            refine pq_in_normal ?_
            refine pq_then ?_
            refine cw_region ?_
            -- r5.0 t26 := move  t7
            refine ol_pure rfl (op_move rfl) ?_
            -- r5.1 t27 := add t26 C1
            refine ol_pure rfl (op_add rfl rfl (by omega) (by omega)) ?_
            -- r5.2 t7 := assign  t27
            refine ol_pure rfl (op_assign rfl) ?_
            refine ol_nil ?_
            -- end of round 1 h15f h20f h25t h37t h46f
            refine pq_loop _ _ (by exact ⟨j + 1, rfl, by omega, rfl, by rw [Pl.all_take_succ (fun p => decide (valI m p = 2) || decide (p ∈ heads)) _ _ hlj, hpa, hvj]; simp_all, hS⟩) ((Sub.cons rfl (Sub.cons rfl (Sub.cons rfl (Sub.cons rfl Sub.nil))))) (by omega)
        · skip
          try simp only [decide_eq_true_eq, decide_eq_false_iff_not, Bool.not_eq_true', Bool.not_eq_false', Bool.not_eq_eq_eq_not, Bool.not_true, Bool.not_false] at h37
          refine ol_guard_no rfl rfl rfl rfl ?_
          refine ol_guard_no rfl rfl rfl rfl ?_
          refine ol_guard_no rfl rfl rfl rfl ?_
          refine ol_guard_no rfl rfl rfl rfl ?_
          refine ol_guard_no rfl rfl rfl rfl ?_
          refine ol_guard_no rfl rfl rfl rfl ?_
          refine ol_guard_no rfl rfl rfl rfl ?_
          refine ol_guard_no rfl rfl rfl rfl ?_
          -- r6.18 t46 := pick  t37 t45 Cfalse
          refine ol_pure rfl (op_pick_f rfl rfl) ?_
          refine ol_nil ?_
          refine pq_then ?_
          refine cw_cond_f rfl ?_
          refine cw_skip ?_
          refine pq_in_normal ?_
          refine pq_then ?_
          refine cw_region ?_
          -- r5.0 t26 := move  t7
          refine ol_pure rfl (op_move rfl) ?_
          -- r5.1 t27 := add t26 C1
          refine ol_pure rfl (op_add rfl rfl (by omega) (by omega)) ?_
          -- r5.2 t7 := assign  t27
          refine ol_pure rfl (op_assign rfl) ?_
          refine ol_nil ?_
          -- end of round 1 h15f h20f h25t h37f
          refine pq_loop _ _ (by exact ⟨j + 1, rfl, by omega, rfl, by rw [Pl.all_take_succ (fun p => decide (valI m p = 2) || decide (p ∈ heads)) _ _ hlj, hpa, hvj]; simp_all, hS⟩) ((Sub.cons rfl (Sub.cons rfl (Sub.cons rfl (Sub.cons rfl Sub.nil))))) (by omega)
      · skip
        try simp only [decide_eq_true_eq, decide_eq_false_iff_not, Bool.not_eq_true', Bool.not_eq_false', Bool.not_eq_eq_eq_not, Bool.not_true, Bool.not_false] at h25
        have hpall := Pl.all_of_take (fun p => decide (valI m p = 2) || decide (p ∈ heads)) r.pos _ (show r.pos.length ≤ j by omega) hpa
        refine cw_exit ?_
        refine pq_exit ?_
        refine pq_exit ?_
        refine pq_in_exit ?_
        refine pq_then ?_
        refine cw_seq ?_
        refine cw_seq ?_
        refine cw_region ?_
        -- r8.0 t8 := assign  C0
        refine ol_pure rfl (op_assign rfl) ?_
        refine ol_nil ?_
        refine pq_then ?_
        refine cw_block ?_
        refine cw_loop (fun e w n => ∃ i : Nat, e = [(0, .slice oM m.length cM), (4, .pointer (some ⟨b4, 0, none⟩)), (8, .int .i64 (i : Nat))] ∧ i ≤ r.neg.length ∧ n = r.neg.length - i ∧ (r.neg.take i).all (fun p => !decide (valI m p = 2)) = true ∧ SS G w0 G [.blk b4 48 [.int .i64 r.head, .slice op r.pos.length cp, .slice oq r.neg.length cq]] w) _ _ (by exact ⟨0, rfl, Nat.zero_le _, rfl, rfl, hS⟩) ((Sub.cons rfl (Sub.cons rfl (Sub.cons rfl Sub.nil)))) ?_
        clear hS
        rintro e w n ⟨i, rfl, hi, rfl, hna, hS⟩
        refine cw_seq ?_
        refine cw_seq ?_
        refine cw_region ?_
        -- r9.0 t47 := move  t8
        refine ol_pure rfl (op_move rfl) ?_
        -- r9.1 t48 := fieldAddr [48, 2] t4
        refine ol_pure rfl (op_fieldAddr fld_48_2 rfl) ?_
        -- r9.2 t49 := load [29] t48
        refine ol_load rfl (op_load1 one_29 rfl (fun w hw => (hw.bcell (i := 0) rfl).trans rfl)) hS ?_
        -- r9.3 t50 := call len t49
        refine ol_pure rfl (op_len sl_29 rfl rfl) ?_
        -- r9.4 t51 := lss t47 t50
        refine ol_pure rfl (op_lss rfl rfl) ?_
        refine ol_nil ?_
        refine pq_then ?_
        refine cw_cond rfl (fun h51 => ?_) (fun h51 => ?_)
        · skip
          try simp only [decide_eq_true_eq, decide_eq_false_iff_not, Bool.not_eq_true', Bool.not_eq_false', Bool.not_eq_eq_eq_not, Bool.not_true, Bool.not_false] at h51
          have hli : i < r.neg.length := by omega
          obtain ⟨hoi, hci, hbi⟩ := h2.int hli
          have hri := hr.2.2 _ (List.getElem_mem hli)
          obtain ⟨xi, hxi⟩ := Int.eq_ofNat_of_zero_le hri.1
          have hni : xi < m.length := by omega
          rw [hxi] at hci
          obtain ⟨hoM, hcMi, _⟩ := h3.int hni
          have hvi : valI m r.neg[i] = m[xi] := by rw [hxi]; exact val_at hni
          refine cw_skip ?_
          refine pq_then ?_
          refine cw_seq ?_
          refine cw_block ?_
          refine cw_seq ?_
          refine cw_region ?_
          -- r11.0 t54 := move  t0
          refine ol_pure rfl (op_move rfl) ?_
          -- r11.1 t55 := fieldAddr [48, 2] t4
          refine ol_pure rfl (op_fieldAddr fld_48_2 rfl) ?_
          -- r11.2 t56 := load [29] t55
          refine ol_load rfl (op_load1 one_29 rfl (fun w hw => (hw.bcell (i := 0) rfl).trans rfl)) hS ?_
          -- r11.3 t57 := move  t8
          refine ol_pure rfl (op_move rfl) ?_
          -- r11.4 t58 := indexAddr [29] t56 t57
          refine ol_pure rfl (op_indexN sl_29 rfl rfl (by omega) (by assumption)) ?_
          -- r11.5 t59 := load [3] t58
          refine ol_load rfl (op_load1 one_3 rfl (fun w hw => hw.gcell hci)) hS ?_
          -- r11.6 t60 := indexAddr [29] t54 t59
          refine ol_pure rfl (op_indexN sl_29 rfl rfl (by omega) hoM) ?_
          -- r11.7 t61 := load [3] t60
          refine ol_load rfl (op_load1 one_3 rfl (fun w hw => hw.gcell hcMi)) hS ?_
          -- r11.8 t62 := eql t61 C2
          refine ol_pure rfl (op_eql rfl rfl) ?_
          refine ol_nil ?_
          refine pq_then ?_
          refine cw_cond rfl (fun h62 => ?_) (fun h62 => ?_)
          · skip
            try simp only [decide_eq_true_eq, decide_eq_false_iff_not, Bool.not_eq_true', Bool.not_eq_false', Bool.not_eq_eq_eq_not, Bool.not_true, Bool.not_false] at h62
            refine cw_seq ?_
            refine cw_region ?_
            -- r12.0 t6 := assign  Cfalse
            refine ol_pure rfl (op_assign rfl) ?_
            refine ol_nil ?_
            refine pq_then ?_
            refine cw_ret ?_
            refine pq_in_ret ?_
            refine pq_ret ?_
            refine pq_ret ?_
            refine pq_in_ret ?_
            refine pq_ret ?_
            refine ret1 rfl rfl ?_
            -- ret3 h15f h20f h25f h51t h62t
            exact hS.sc_b (by unfold supW; rw [Pl.all_false_at (fun p => !decide (valI m p = 2)) r.neg i hli (by rw [hvi]; simp_all), Bool.and_false])
          · skip
            try simp only [decide_eq_true_eq, decide_eq_false_iff_not, Bool.not_eq_true', Bool.not_eq_false', Bool.not_eq_eq_eq_not, Bool.not_true, Bool.not_false] at h62
            refine cw_skip ?_
            refine pq_in_normal ?_
            refine pq_then ?_
            refine cw_region ?_
            -- r10.0 t52 := move  t8
            refine ol_pure rfl (op_move rfl) ?_
            -- r10.1 t53 := add t52 C1
            refine ol_pure rfl (op_add rfl rfl (by omega) (by omega)) ?_
            -- r10.2 t8 := assign  t53
            refine ol_pure rfl (op_assign rfl) ?_
            refine ol_nil ?_
            -- end of round 2 h15f h20f h25f h51t h62f
            refine pq_loop _ _ (by exact ⟨i + 1, rfl, by omega, rfl, by rw [Pl.all_take_succ (fun p => !decide (valI m p = 2)) _ _ hli, hna, hvi]; simp_all, hS⟩) ((Sub.cons rfl (Sub.cons rfl (Sub.cons rfl Sub.nil)))) (by omega)
        · skip
          try simp only [decide_eq_true_eq, decide_eq_false_iff_not, Bool.not_eq_true', Bool.not_eq_false', Bool.not_eq_eq_eq_not, Bool.not_true, Bool.not_false] at h51
          refine cw_exit ?_
          refine pq_exit ?_
          refine pq_exit ?_
          refine pq_in_exit ?_
          refine pq_then ?_
          refine cw_seq ?_
          refine cw_region ?_
          -- r13.0 t6 := assign  Ctrue
          refine ol_pure rfl (op_assign rfl) ?_
          refine ol_nil ?_
          refine pq_then ?_
          refine cw_ret ?_
          refine ret1 rfl rfl ?_
          -- ret4 h15f h20f h25f h51f
          exact hS.sc_b (by unfold supW; rw [hfst, hpall, Pl.all_of_take (fun p => !decide (valI m p = 2)) r.neg _ (by omega) hna]; rfl)
set_option maxRecDepth 100000 in
set_option maxHeartbeats 1000000 in

theorem L22_holds_c (G : GH) (w0 : World) (hG : Holds G w0) {α : Type} {E : ER α} (va vr : Value) (atoms : List α) (rs : List Rule) (h1 : RSl 1 E G va atoms) (h2 : RSl 3 ERule G vr rs) (hP : PrOk atoms.length rs) (vm : Value) (m : List Int) (h3 : RSl 1 EInt G vm m) (hm : m.length = atoms.length) :
    Calls Try.prog 15 #[.agg #[va, vr], vm] w0 (Rt noG w0 (fun G v => RSl 1 EInt G v (holdsI atoms.length rs m))) := by
  obtain ⟨oA, cA, rfl, hlA, hmA⟩ := h1.elim
  obtain ⟨oR, cR, rfl, hlR, hmR⟩ := h2.elim
  have hle1 := h1.le
  have hle2 := h2.le
  have hPn := hP.n_le
  have hPm := hP.m_le
  obtain ⟨oM, cM, rfl, hlM, hmM⟩ := h3.elim
  have hokm : ∀ r ∈ rs, RuleOk m.length r := fun r hr => by rw [hm]; exact (hP.rule r hr).1
  refine enter Try.func15 rfl (N := 47) rfl (Nat.le_of_ble_eq_true rfl) ?_
  have hS := SS.init hG
  refine cw_seq ?_
  refine cw_region ?_
  -- r0.0 t2 := box [25] t0
  refine ol_step rfl (op_box hS rfl rfl) ?_
  clear hS
  rintro _ w ⟨b2, rfl, hS⟩
  -- r0.1 t4 := assign  C(slice (none Addr) 0 0)
  refine ol_pure rfl (op_assign rfl) ?_
  refine ol_nil ?_
  refine pq_then ?_
  refine cw_seq ?_
  refine cw_region ?_
  -- r1.0 t9 := buildSlice [29, 0] 
  refine ol_step rfl (op_buildSlice (el := 3) (is := []) (xs := []) (sz := 1) (cs := []) hS rfl rfl (fun w => by kernel_rfl) rfl (by decide)) ?_
  clear hS
  rintro _ w ⟨o5, rfl, hS⟩
  -- r1.1 t5 := assign  t9
  refine ol_pure rfl (op_assign rfl) ?_
  refine ol_nil ?_
  refine pq_then ?_
  refine cw_seq ?_
  refine cw_region ?_
  -- r2.0 t10 := buildSlice [29, 0] 
  refine ol_step rfl (op_buildSlice (el := 3) (is := []) (xs := []) (sz := 1) (cs := []) hS rfl rfl (fun w => by kernel_rfl) rfl (by decide)) ?_
  clear hS
  rintro _ w ⟨o6, rfl, hS⟩
  -- r2.1 t6 := assign  t10
  refine ol_pure rfl (op_assign rfl) ?_
  refine ol_nil ?_
  refine pq_then ?_
  refine cw_seq ?_
  refine cw_seq ?_
  refine cw_region ?_
  -- r3.0 t7 := assign  C0
  refine ol_pure rfl (op_assign rfl) ?_
  refine ol_nil ?_
  refine pq_then ?_
  refine cw_block ?_
  refine cw_loop (fun e w n => ∃ j o5 l5 c5 o6 l6 c6 st, e = [(1, .slice oM m.length cM), (2, .pointer (some ⟨b2, 0, none⟩)), (5, .slice o5 l5 c5), (6, .slice o6 l6 c6), (7, .int .i64 (j : Nat))] ∧ j ≤ atoms.length ∧ n = atoms.length - j ∧ l5 = st.1.length ∧ l6 = st.2.length ∧ iterH m rs atoms.length ([], []) = iterH m rs (atoms.length - j) st ∧ HInv rs m st ∧ SS G w0 G [.row o6 l6 c6 3 1 (st.2.map (Value.int .i64)), .row o5 l5 c5 3 1 (st.1.map (Value.int .i64)), .blk b2 25 [.slice oA atoms.length cA, .slice oR rs.length cR]] w) _ _ (by exact ⟨0, o5, 0, _, o6, 0, _, ([], []), rfl, Nat.zero_le _, rfl, rfl, rfl, rfl, HInv.start rs m, hS⟩) ((Sub.cons rfl (Sub.cons rfl (Sub.cons rfl (Sub.cons rfl (Sub.cons rfl Sub.nil)))))) ?_
  clear hS
  rintro e w n ⟨j, o5, l5, c5, o6, l6, c6, st, rfl, hj, rfl, hl5, hl6, hst, hI, hS⟩
  refine cw_seq ?_
  refine cw_seq ?_
  refine cw_region ?_
  -- r4.0 t11 := move  t7
  refine ol_pure rfl (op_move rfl) ?_
  -- r4.1 t12 := fieldAddr [25, 0] t2
  refine ol_pure rfl (op_fieldAddr fld_25_0 rfl) ?_
  -- r4.2 t13 := load [22] t12
  refine ol_load rfl (op_load1 one_22 rfl (fun w hw => (hw.bcell (i := 2) rfl).trans rfl)) hS ?_
  -- r4.3 t14 := call len t13
  refine ol_pure rfl (op_len sl_22 rfl rfl) ?_
  -- r4.4 t15 := lss t11 t14
  refine ol_pure rfl (op_lss rfl rfl) ?_
  refine ol_nil ?_
  refine pq_then ?_
  refine cw_cond rfl (fun h15 => ?_) (fun h15 => ?_)
  · skip
    try simp only [decide_eq_true_eq, decide_eq_false_iff_not, Bool.not_eq_true', Bool.not_eq_false', Bool.not_eq_eq_eq_not, Bool.not_true, Bool.not_false] at h15
    have hjl : j < atoms.length := by omega
    refine cw_skip ?_
    refine pq_then ?_
    refine cw_seq ?_
    refine cw_block ?_
    refine cw_seq ?_
    refine cw_region ?_
    -- r6.0 t8 := assign  C0
    refine ol_pure rfl (op_assign rfl) ?_
    refine ol_nil ?_
    refine pq_then ?_
    refine cw_block ?_
    refine cw_loop (fun e w n => ∃ k o5 l5 c5 o6 l6 c6 st, e = [(1, .slice oM m.length cM), (2, .pointer (some ⟨b2, 0, none⟩)), (5, .slice o5 l5 c5), (6, .slice o6 l6 c6), (7, .int .i64 (j : Nat)), (8, .int .i64 (k : Nat))] ∧ k ≤ rs.length ∧ n = rs.length - k ∧ l5 = st.1.length ∧ l6 = st.2.length ∧ iterH m rs atoms.length ([], []) = iterH m rs (atoms.length - (j + 1)) (goH m k (rs.drop k) st) ∧ HInv rs m st ∧ SS G w0 G [.row o6 l6 c6 3 1 (st.2.map (Value.int .i64)), .row o5 l5 c5 3 1 (st.1.map (Value.int .i64)), .blk b2 25 [.slice oA atoms.length cA, .slice oR rs.length cR]] w) _ _ (by exact ⟨0, o5, l5, c5, o6, l6, c6, st, rfl, Nat.zero_le _, rfl, hl5, hl6, by rw [hst, show atoms.length - j = (atoms.length - (j + 1)) + 1 from by omega]; rfl, hI, hS⟩) ((Sub.cons rfl (Sub.cons rfl (Sub.cons rfl (Sub.cons rfl (Sub.cons rfl (Sub.cons rfl Sub.nil))))))) ?_
    clear hst hI hl5 hl6
    clear hS
    rintro e w n ⟨k, o5, l5, c5, o6, l6, c6, st, rfl, hk, rfl, hl5, hl6, hst, hI, hS⟩
    refine cw_seq ?_
    refine cw_seq ?_
    refine cw_region ?_
    -- r7.0 t18 := move  t8
    refine ol_pure rfl (op_move rfl) ?_
    -- r7.1 t19 := fieldAddr [25, 1] t2
    refine ol_pure rfl (op_fieldAddr fld_25_1 rfl) ?_
    -- r7.2 t20 := load [23] t19
    refine ol_load rfl (op_load1 one_23 rfl (fun w hw => (hw.bcell (i := 2) rfl).trans rfl)) hS ?_
    -- r7.3 t21 := call len t20
    refine ol_pure rfl (op_len sl_23 rfl rfl) ?_
    -- r7.4 t22 := lss t18 t21
    refine ol_pure rfl (op_lss rfl rfl) ?_
    refine ol_nil ?_
    refine pq_then ?_
    refine cw_cond rfl (fun h22 => ?_) (fun h22 => ?_)
    · skip
      try simp only [decide_eq_true_eq, decide_eq_false_iff_not, Bool.not_eq_true', Bool.not_eq_false', Bool.not_eq_eq_eq_not, Bool.not_true, Bool.not_false] at h22
      have hlt : k < rs.length := by omega
      have hrk := (hP.rule _ (List.getElem_mem hlt)).1
      obtain ⟨hoa, cs, hcl, ⟨p, q, rfl, hp, hq, hhd⟩, hcells⟩ := h2.el hlt
      obtain ⟨op, cp, hpe, hlp, hmp⟩ := hp.elim
      obtain ⟨oq, cq, hqe, hlq, hmq⟩ := hq.elim
      subst hpe
      subst hqe
      have hple := hp.le
      have hqle := hq.le
      have hns := nodup_le (n := m.length) hI.nodup hI.range
      have hno := HInv.outlen hI
      have hgo := goH_go m rs st hlt
      have hlend := SS.lend (zs := st.2) [] hS (by decide) EInt.mono (Rows.of_map (xs := st.2) (f := Value.int .i64) (E := EInt) (fun y hy => ⟨rfl, by have := hI.range y hy; omega⟩)) hl6
      refine cw_skip ?_
      refine pq_then ?_
      refine cw_seq ?_
      refine cw_block ?_
      refine cw_seq ?_
      refine cw_region ?_
      -- r9.0 t25 := move  t1
      refine ol_pure rfl (op_move rfl) ?_
      -- r9.1 t26 := fieldAddr [25, 1] t2
      refine ol_pure rfl (op_fieldAddr fld_25_1 rfl) ?_
      -- r9.2 t27 := load [23] t26
      refine ol_load rfl (op_load1 one_23 rfl (fun w hw => (hw.bcell (i := 2) rfl).trans rfl)) hS ?_
      -- r9.3 t28 := move  t8
      refine ol_pure rfl (op_move rfl) ?_
      -- r9.4 t29 := indexAddr [23] t27 t28
      refine ol_pure rfl (op_indexN sl_23 rfl rfl (by omega) (by assumption)) ?_
      -- r9.5 t30 := load [48] t29
      refine ol_load rfl (op_loadN agg_48 rfl (by rfl) (fun w hw k u hk => hw.gcell (hcells k u hk))) hS ?_
      -- r9.6 t31 := move  t6
      refine ol_pure rfl (op_move rfl) ?_
      -- r9.7 t32 := call f33 t25 t30 t31
      refine ol_step rfl (op_call_sc hS cf_33 rfl (L22_supports_c (fullG _) _ (Holds.full _) _ m (h3.mono EInt.mono hS.hold.le_full) rs[k] _ _ (hp.mono EInt.mono hS.hold.le_full) (hq.mono EInt.mono hS.hold.le_full) (by rw [hm]; exact hrk) _ st.2 hlend)) ?_
      clear hS
      rintro _ w ⟨rfl, hS⟩
      refine ol_nil ?_
      refine pq_then ?_
      refine cw_cond rfl (fun h32 => ?_) (fun h32 => ?_)
      · skip
        try simp only [decide_eq_true_eq, decide_eq_false_iff_not, Bool.not_eq_true', Bool.not_eq_false', Bool.not_eq_eq_eq_not, Bool.not_true, Bool.not_false] at h32
        have hs32 : supW m rs[k] st.2 = true := h32
        have hadd := hI.add hlt (by rw [hm]; exact hrk) hs32
        rw [if_pos hs32] at hgo
        refine cw_seq ?_
        refine cw_region ?_
        -- r10.0 t33 := move  t5
        refine ol_pure rfl (op_move rfl) ?_
        -- r10.1 t34 := move  t8
        refine ol_pure rfl (op_move rfl) ?_
        -- r10.2 t35 := buildSlice [29, 1] 0:t34
        refine ol_step rfl (op_buildSlice (el := 3) (is := [0]) (xs := [.tmp 34]) (sz := 1) (cs := [.int .i64 (k : Nat)]) hS rfl rfl (fun w => by kernel_rfl) rfl (by decide)) ?_
        clear hS
        rintro _ w ⟨s35, rfl, hS⟩
        -- r10.3 t36 := call append t33 t35
        refine ol_step rfl (op_append (j := 2) hS sl_29 el_3 rfl rfl rfl rfl rfl rfl (by decide) (hS.news (j := 0) rfl) (by simp [Value.oneCell']) (by omega) (by unfold maxLen; omega)) ?_
        clear hS
        rintro _ w ⟨o5n, c_o5n, rfl, hS⟩; (try simp only [List.nil_append, List.cons_append, List.set] at hS); replace hS := SS.drop [] hS; (try simp only [List.nil_append, List.cons_append] at hS)
        -- r10.4 t5 := assign  t36
        refine ol_pure rfl (op_assign rfl) ?_
        refine ol_nil ?_
        refine pq_then ?_
        refine cw_region ?_
        -- r11.0 t37 := move  t6
        refine ol_pure rfl (op_move rfl) ?_
        -- r11.1 t38 := fieldAddr [25, 1] t2
        refine ol_pure rfl (op_fieldAddr fld_25_1 rfl) ?_
        -- r11.2 t39 := load [23] t38
        refine ol_load rfl (op_load1 one_23 rfl (fun w hw => (hw.bcell (i := 2) rfl).trans rfl)) hS ?_
        -- r11.3 t40 := move  t8
        refine ol_pure rfl (op_move rfl) ?_
        -- r11.4 t41 := indexAddr [23] t39 t40
        refine ol_pure rfl (op_indexN sl_23 rfl rfl (by omega) (by assumption)) ?_
        -- r11.5 t42 := fieldAddr [48, 0] t41
        refine ol_pure rfl (op_fieldAddr fld_48_0 rfl) ?_
        -- r11.6 t43 := load [3] t42
        refine ol_load rfl (op_load1 one_3 rfl (fun w hw => hw.gcell (hcells 0 _ rfl))) hS ?_
        -- r11.7 t44 := buildSlice [29, 1] 0:t43
        refine ol_step rfl (op_buildSlice (el := 3) (is := [0]) (xs := [.tmp 43]) (sz := 1) (cs := [.int .i64 rs[k].head]) hS rfl rfl (fun w => by kernel_rfl) rfl (by decide)) ?_
        clear hS
        rintro _ w ⟨s44, rfl, hS⟩
        -- r11.8 t45 := call append t37 t44
        refine ol_step rfl (op_append (j := 1) hS sl_29 el_3 rfl rfl rfl rfl rfl rfl (by decide) (hS.news (j := 0) rfl) (by simp [Value.oneCell']) (by omega) (by unfold maxLen; omega)) ?_
        clear hS
        rintro _ w ⟨o6n, c_o6n, rfl, hS⟩; (try simp only [List.nil_append, List.cons_append, List.set] at hS); replace hS := SS.drop [] hS; (try simp only [List.nil_append, List.cons_append] at hS)
        -- r11.9 t6 := assign  t45
        refine ol_pure rfl (op_assign rfl) ?_
        refine ol_nil ?_
        refine pq_in_normal ?_
        refine pq_then ?_
        refine cw_region ?_
        -- r8.0 t23 := move  t8
        refine ol_pure rfl (op_move rfl) ?_
        -- r8.1 t24 := add t23 C1
        refine ol_pure rfl (op_add rfl rfl (by omega) (by omega)) ?_
        -- r8.2 t8 := assign  t24
        refine ol_pure rfl (op_assign rfl) ?_
        refine ol_nil ?_
        -- end of round 2 h15t h22t h32t
        refine pq_loop _ _ (by exact ⟨k + 1, o5n, l5 + 1, c_o5n, o6n, l6 + 1, c_o6n, (st.1 ++ [(k : Int)], st.2 ++ [rs[k].head]), rfl, by omega, rfl, by simp [hl5], by simp [hl6], by rw [hst, hgo], hadd, by simpa using hS⟩) ((Sub.cons rfl (Sub.cons rfl (Sub.cons rfl (Sub.cons rfl (Sub.cons rfl (Sub.cons rfl Sub.nil))))))) (by omega)
      · skip
        try simp only [decide_eq_true_eq, decide_eq_false_iff_not, Bool.not_eq_true', Bool.not_eq_false', Bool.not_eq_eq_eq_not, Bool.not_true, Bool.not_false] at h32
        have hs32 : supW m rs[k] st.2 = false := h32
        rw [if_neg (by rw [hs32]; decide)] at hgo
        refine cw_skip ?_
        refine pq_in_normal ?_
        refine pq_then ?_
        refine cw_region ?_
        -- r8.0 t23 := move  t8
        refine ol_pure rfl (op_move rfl) ?_
        -- r8.1 t24 := add t23 C1
        refine ol_pure rfl (op_add rfl rfl (by omega) (by omega)) ?_
        -- r8.2 t8 := assign  t24
        refine ol_pure rfl (op_assign rfl) ?_
        refine ol_nil ?_
        -- end of round 2 h15t h22t h32f
        refine pq_loop _ _ (by exact ⟨k + 1, o5, l5, c5, o6, l6, c6, st, rfl, by omega, rfl, hl5, hl6, by rw [hst, hgo], hI, hS⟩) ((Sub.cons rfl (Sub.cons rfl (Sub.cons rfl (Sub.cons rfl (Sub.cons rfl (Sub.cons rfl Sub.nil))))))) (by omega)
    · skip
      try simp only [decide_eq_true_eq, decide_eq_false_iff_not, Bool.not_eq_true', Bool.not_eq_false', Bool.not_eq_eq_eq_not, Bool.not_true, Bool.not_false] at h22
      rw [List.drop_eq_nil_of_le (show rs.length ≤ k by omega)] at hst
      have hst3 : iterH m rs atoms.length ([], []) = iterH m rs (atoms.length - (j + 1)) st := hst
      refine cw_exit ?_
      refine pq_exit ?_
      refine pq_exit ?_
      refine pq_in_exit ?_
      refine pq_in_normal ?_
      refine pq_then ?_
      refine cw_region ?_
      -- r5.0 t16 := move  t7
      refine ol_pure rfl (op_move rfl) ?_
      -- r5.1 t17 := add t16 C1
      refine ol_pure rfl (op_add rfl rfl (by omega) (by omega)) ?_
      -- r5.2 t7 := assign  t17
      refine ol_pure rfl (op_assign rfl) ?_
      refine ol_nil ?_
      -- end of round 1 h15t h22f
      refine pq_loop _ _ (by exact ⟨j + 1, o5, l5, c5, o6, l6, c6, st, rfl, by omega, rfl, hl5, hl6, hst3, hI, hS⟩) ((Sub.cons rfl (Sub.cons rfl (Sub.cons rfl (Sub.cons rfl (Sub.cons rfl Sub.nil)))))) (by omega)
  · skip
    try simp only [decide_eq_true_eq, decide_eq_false_iff_not, Bool.not_eq_true', Bool.not_eq_false', Bool.not_eq_eq_eq_not, Bool.not_true, Bool.not_false] at h15
    refine cw_exit ?_
    refine pq_exit ?_
    refine pq_exit ?_
    refine pq_in_exit ?_
    refine pq_then ?_
    refine cw_seq ?_
    refine cw_region ?_
    -- r12.0 t46 := move  t5
    refine ol_pure rfl (op_move rfl) ?_
    -- r12.1 t4 := assign  t46
    refine ol_pure rfl (op_assign rfl) ?_
    refine ol_nil ?_
    refine pq_then ?_
    refine cw_ret ?_
    refine ret1 rfl rfl ?_
    -- ret1 h15f
    rw [show atoms.length - j = 0 from by omega] at hst
    have hst2 : holdsI atoms.length rs m = st.1 := by unfold holdsI; rw [hst]; rfl
    have hob := HInv.outmem hI
    rw [hst2]
    exact hS.rt_row [_] (by decide) (Rows.of_map (fun y hy => ⟨rfl, by have := hob y hy; omega⟩)) EInt.mono hl5
set_option maxRecDepth 100000 in
set_option maxHeartbeats 2000000 in

theorem L22_steps_c (G : GH) (w0 : World) (hG : Holds G w0) {α : Type} {E : ER α} (hE : EMono E) (va vr : Value) (atoms : List α) (rs : List Rule) (h1 : RSl 1 E G va atoms) (h2 : RSl 3 ERule G vr rs) (hP : PrOk atoms.length rs)  :
    Calls Try.prog 13 #[.agg #[va, vr]] w0 (Rt G w0 (fun G v => ∃ vl vm, v = .tuple #[vl, vm] ∧ RSl 2 EStep G vl (stepsI atoms.length rs).1 ∧ RSl 1 EInt G vm (stepsI atoms.length rs).2)) := by
  obtain ⟨oA, cA, rfl, hlA, hmA⟩ := h1.elim
  obtain ⟨oR, cR, rfl, hlR, hmR⟩ := h2.elim
  have hle1 := h1.le
  have hle2 := h2.le
  have hPn := hP.n_le
  have hPm := hP.m_le
  refine enter Try.func13 rfl (N := 84) rfl (Nat.le_of_ble_eq_true rfl) ?_
  have hS := SS.init hG
  refine cw_seq ?_
  refine cw_region ?_
  -- r0.0 t1 := box [25] t0
  refine ol_step rfl (op_box hS rfl rfl) ?_
  clear hS
  rintro _ w ⟨b1, rfl, hS⟩
  -- r0.1 t2 := assign  C(slice (none Addr) 0 0)
  refine ol_pure rfl (op_assign rfl) ?_
  -- r0.2 t3 := assign  C(slice (none Addr) 0 0)
  refine ol_pure rfl (op_assign rfl) ?_
  refine ol_nil ?_
  refine pq_then ?_
  refine cw_seq ?_
  refine cw_region ?_
  -- r1.0 t11 := buildSlice [28, 0] 
  refine ol_step rfl (op_buildSlice (el := 44) (is := []) (xs := []) (sz := 2) (cs := []) hS rfl rfl (fun w => by kernel_rfl) rfl (by decide)) ?_
  clear hS
  rintro _ w ⟨o4, rfl, hS⟩
  -- r1.1 t4 := assign  t11
  refine ol_pure rfl (op_assign rfl) ?_
  refine ol_nil ?_
  refine pq_then ?_
  refine cw_seq ?_
  refine cw_region ?_
  -- r2.0 t12 := buildSlice [29, 0] 
  refine ol_step rfl (op_buildSlice (el := 3) (is := []) (xs := []) (sz := 1) (cs := []) hS rfl rfl (fun w => by kernel_rfl) rfl (by decide)) ?_
  clear hS
  rintro _ w ⟨o5, rfl, hS⟩
  -- r2.1 t5 := assign  t12
  refine ol_pure rfl (op_assign rfl) ?_
  refine ol_nil ?_
  refine pq_then ?_
  refine cw_seq ?_
  refine cw_seq ?_
  refine cw_region ?_
  -- r3.0 t6 := assign  C0
  refine ol_pure rfl (op_assign rfl) ?_
  refine ol_nil ?_
  refine pq_then ?_
  refine cw_block ?_
  refine cw_loop (fun e w n => ∃ k o5 c5, e = [(1, .pointer (some ⟨b1, 0, none⟩)), (4, .slice o4 0 0), (5, .slice o5 k c5), (6, .int .i64 (k : Nat))] ∧ k ≤ atoms.length ∧ n = atoms.length - k ∧ SS G w0 G [.row o5 k c5 3 1 ((List.replicate k (1 : Int)).map (Value.int .i64)), .row o4 0 0 44 2 [], .blk b1 25 [.slice oA atoms.length cA, .slice oR rs.length cR]] w) _ _ (by exact ⟨0, o5, _, rfl, Nat.zero_le _, rfl, hS⟩) ((Sub.cons rfl (Sub.cons rfl (Sub.cons rfl (Sub.cons rfl Sub.nil))))) ?_
  clear hS
  rintro e w n ⟨k, o5, c5, rfl, hk, rfl, hS⟩
  refine cw_seq ?_
  refine cw_seq ?_
  refine cw_region ?_
  -- r4.0 t13 := move  t6
  refine ol_pure rfl (op_move rfl) ?_
  -- r4.1 t14 := fieldAddr [25, 0] t1
  refine ol_pure rfl (op_fieldAddr fld_25_0 rfl) ?_
  -- r4.2 t15 := load [22] t14
  refine ol_load rfl (op_load1 one_22 rfl (fun w hw => (hw.bcell (i := 2) rfl).trans rfl)) hS ?_
  -- r4.3 t16 := call len t15
  refine ol_pure rfl (op_len sl_22 rfl rfl) ?_
  -- r4.4 t17 := lss t13 t16
  refine ol_pure rfl (op_lss rfl rfl) ?_
  refine ol_nil ?_
  refine pq_then ?_
  refine cw_cond rfl (fun h17 => ?_) (fun h17 => ?_)
  · skip
    try simp only [decide_eq_true_eq, decide_eq_false_iff_not, Bool.not_eq_true', Bool.not_eq_false', Bool.not_eq_eq_eq_not, Bool.not_true, Bool.not_false] at h17
    have hlt : k < atoms.length := by omega
    refine cw_skip ?_
    refine pq_then ?_
    refine cw_seq ?_
    refine cw_block ?_
    refine cw_region ?_
    -- r6.0 t20 := move  t5
    refine ol_pure rfl (op_move rfl) ?_
    -- r6.1 t21 := buildSlice [29, 1] 0:C1
    refine ol_step rfl (op_buildSlice (el := 3) (is := [0]) (xs := [.const (.int .i64 (1))]) (sz := 1) (cs := [.int .i64 (1)]) hS rfl rfl (fun w => by kernel_rfl) rfl (by decide)) ?_
    clear hS
    rintro _ w ⟨s21, rfl, hS⟩
    -- r6.2 t22 := call append t20 t21
    refine ol_step rfl (op_append (j := 1) hS sl_29 el_3 rfl rfl rfl rfl rfl rfl (by decide) (hS.news (j := 0) rfl) (by simp [Value.oneCell']) (by omega) (by unfold maxLen; omega)) ?_
    clear hS
    rintro _ w ⟨o5n, c_o5n, rfl, hS⟩; (try simp only [List.nil_append, List.cons_append, List.set] at hS); replace hS := SS.drop [] hS; (try simp only [List.nil_append, List.cons_append] at hS)
    -- r6.3 t5 := assign  t22
    refine ol_pure rfl (op_assign rfl) ?_
    refine ol_nil ?_
    refine pq_in_normal ?_
    refine pq_then ?_
    refine cw_region ?_
    -- r5.0 t18 := move  t6
    refine ol_pure rfl (op_move rfl) ?_
    -- r5.1 t19 := add t18 C1
    refine ol_pure rfl (op_add rfl rfl (by omega) (by omega)) ?_
    -- r5.2 t6 := assign  t19
    refine ol_pure rfl (op_assign rfl) ?_
    refine ol_nil ?_
    -- end of round 1 h17t
    refine pq_loop _ _ (by exact ⟨k + 1, o5n, c_o5n, rfl, by omega, rfl, by rw [List.replicate_succ']; simpa using hS⟩) ((Sub.cons rfl (Sub.cons rfl (Sub.cons rfl (Sub.cons rfl Sub.nil))))) (by omega)
  · skip
    try simp only [decide_eq_true_eq, decide_eq_false_iff_not, Bool.not_eq_true', Bool.not_eq_false', Bool.not_eq_eq_eq_not, Bool.not_true, Bool.not_false] at h17
    have hk0 : k = atoms.length := by omega
    subst hk0
    rw [show (List.replicate atoms.length (1 : Int)) = startI atoms.length from rfl] at hS
    refine cw_exit ?_
    refine pq_exit ?_
    refine pq_exit ?_
    refine pq_in_exit ?_
    refine pq_then ?_
    refine cw_seq ?_
    refine cw_seq ?_
    refine cw_region ?_
    -- r7.0 t7 := assign  C0
    refine ol_pure rfl (op_assign rfl) ?_
    refine ol_nil ?_
    refine pq_then ?_
    refine cw_block ?_
    refine cw_loop (fun e w n => ∃ j Gk o4 l4 c4 us out m, e = [(1, .pointer (some ⟨b1, 0, none⟩)), (4, .slice o4 l4 c4), (5, .slice o5 atoms.length c5), (7, .int .i64 (j : Nat))] ∧ j ≤ atoms.length + 1 ∧ n = atoms.length + 1 - j ∧ l4 = out.length ∧ goS atoms.length rs (atoms.length + 1) [] (startI atoms.length) = goS atoms.length rs (atoms.length + 1 - j) out m ∧ m.length = atoms.length ∧ (∀ x ∈ m, 0 ≤ x ∧ x ≤ 2) ∧ out.length ≤ j ∧ Le G Gk ∧ Rows 2 EStep Gk us out ∧ SS G w0 Gk [.row o5 atoms.length c5 3 1 (m.map (Value.int .i64)), .row o4 l4 c4 44 2 us, .blk b1 25 [.slice oA atoms.length cA, .slice oR rs.length cR]] w) _ _ (by exact ⟨0, G, o4, 0, 0, [], [], startI atoms.length, rfl, Nat.zero_le _, rfl, rfl, rfl, by simp [startI], startI_mem, by simp, Le.refl _, Rows.nil _, hS⟩) ((Sub.cons rfl (Sub.cons rfl (Sub.cons rfl (Sub.cons rfl Sub.nil))))) ?_
    clear hS
    rintro e w n ⟨j, Gk, o4, l4, c4, us, out, m, rfl, hj, rfl, hl4, hgs, hml, hmb, hoj, hlk, hrw, hS⟩
    refine cw_seq ?_
    refine cw_seq ?_
    refine cw_region ?_
    -- r8.0 t23 := move  t7
    refine ol_pure rfl (op_move rfl) ?_
    -- r8.1 t24 := fieldAddr [25, 0] t1
    refine ol_pure rfl (op_fieldAddr fld_25_0 rfl) ?_
    -- r8.2 t25 := load [22] t24
    refine ol_load rfl (op_load1 one_22 rfl (fun w hw => (hw.bcell (i := 2) rfl).trans rfl)) hS ?_
    -- r8.3 t26 := call len t25
    refine ol_pure rfl (op_len sl_22 rfl rfl) ?_
    -- r8.4 t27 := leq t23 t26
    refine ol_pure rfl (op_leq rfl rfl) ?_
    refine ol_nil ?_
    refine pq_then ?_
    refine cw_cond rfl (fun h27 => ?_) (fun h27 => ?_)
    · skip
      try simp only [decide_eq_true_eq, decide_eq_false_iff_not, Bool.not_eq_true', Bool.not_eq_false', Bool.not_eq_eq_eq_not, Bool.not_true, Bool.not_false] at h27
      have hjn : j ≤ atoms.length := by omega
      rw [show atoms.length + 1 - j = (atoms.length - j) + 1 from by omega] at hgs
      have hul := unf_len atoms.length rs m
      refine cw_skip ?_
      refine pq_then ?_
      refine cw_seq ?_
      refine cw_block ?_
      refine cw_seq ?_
      refine cw_region ?_
      -- r10.0 t30 := load [25] t1
      refine ol_load rfl (op_loadN agg_25 rfl (by rfl) (fun w hw k u hk => (hw.bcell (i := 2) rfl).trans hk)) hS ?_
      -- r10.1 t31 := move  t5
      refine ol_pure rfl (op_move rfl) ?_
      -- r10.2 t32 := call f24 t30 t31
      have hlm := SS.lend (zs := m) [] hS (by decide) EInt.mono (Rows.of_map (xs := m) (f := Value.int .i64) (E := EInt) (fun y hy => ⟨rfl, by have := hmb y hy; omega⟩)) hml.symm
      refine ol_step rfl (op_call_sc hS cf_24 rfl (L22_fires_c (fullG _) _ (Holds.full _) _ _ atoms rs (h1.mono hE (hlk.trans hS.hold.le_full)) (h2.mono ERule.mono (hlk.trans hS.hold.le_full)) hP _ m hlm hml)) ?_
      clear hS
      rintro _ w ⟨rfl, hS⟩
      -- r10.3 t8 := assign  t32
      refine ol_pure rfl (op_assign rfl) ?_
      refine ol_nil ?_
      refine pq_then ?_
      refine cw_seq ?_
      refine cw_region ?_
      -- r11.0 t33 := move  t5
      refine ol_pure rfl (op_move rfl) ?_
      -- r11.1 t34 := load [25] t1
      refine ol_load rfl (op_loadN agg_25 rfl (by rfl) (fun w hw k u hk => (hw.bcell (i := 2) rfl).trans hk)) hS ?_
      -- r11.2 t35 := move  t5
      refine ol_pure rfl (op_move rfl) ?_
      -- r11.3 t36 := call f26 t34 t35
      have hlm := SS.lend (zs := m) [] hS (by decide) EInt.mono (Rows.of_map (xs := m) (f := Value.int .i64) (E := EInt) (fun y hy => ⟨rfl, by have := hmb y hy; omega⟩)) hml.symm
      refine ol_step rfl (op_call_fr hS cf_26 rfl (wfm_Unfounded_c (fullG _) _ (Holds.full _) hE _ _ atoms rs (h1.mono hE (hlk.trans hS.hold.le_full)) (h2.mono ERule.mono (hlk.trans hS.hold.le_full)) hP _ m hlm)) ?_
      clear hS
      rintro v36 w ⟨F36, G36, hR36, hF36, hf36, hl36, hS⟩
      -- r11.4 t37 := call f25 t33 t36
      have hlm := SS.lend (zs := m) [] hS (by decide) EInt.mono (Rows.of_map (xs := m) (f := Value.int .i64) (E := EInt) (fun y hy => ⟨rfl, by have := hmb y hy; omega⟩)) hml.symm
      refine ol_step rfl (op_call_fr hS cf_25 rfl (L22_open_c (fullG _) _ (Holds.full _) _ m hlm _ (unfI atoms.length rs m) ((hR36.mono EInt.mono hf36).mono EInt.mono hS.hold.le_full) (by omega))) ?_
      clear hS
      rintro v37 w ⟨F37, G37, hR37, hF37, hf37, hl37, hS⟩
      obtain ⟨o37, c37, rfl, _, _⟩ := hR37.elim
      have hU := hR37.mono EInt.mono hf37
      have hl37b := hlk.trans (hl36.trans hl37)
      have hl37c := hl36.trans hl37
      have hol : (openF m (unfI atoms.length rs m)).length ≤ (unfI atoms.length rs m).length := List.length_filter_le _ _
      -- r11.5 t9 := assign  t37
      refine ol_pure rfl (op_assign rfl) ?_
      refine ol_nil ?_
      refine pq_then ?_
      refine cw_seq ?_
      refine cw_region ?_
      -- r12.0 t38 := move  t8
      refine ol_pure rfl (op_move rfl) ?_
      -- r12.1 t39 := geq t38 C0
      refine ol_pure rfl (op_geq rfl rfl) ?_
      refine ol_nil ?_
      refine pq_then ?_
      refine cw_cond rfl (fun h39 => ?_) (fun h39 => ?_)
      · skip
        try simp only [decide_eq_true_eq, decide_eq_false_iff_not, Bool.not_eq_true', Bool.not_eq_false', Bool.not_eq_eq_eq_not, Bool.not_true, Bool.not_false] at h39
        obtain ⟨k, hfk, hlt⟩ := (fire_range (rs := rs) (m := m)).resolve_left (by omega)
        have hrk := (hP.rule _ (List.getElem_mem hlt)).1
        obtain ⟨hoa, cs, hcl, ⟨p, q, rfl, hp, hq, hhd⟩, hcells⟩ := h2.el hlt
        have hcells2 : ∀ (j : Nat) (u : Value), [Value.int .i64 rs[k].head, p, q][j]? = some u → gcell G ((elA oR ((fireI rs m).toNat * 3)).add j) = some u := by rw [hfk]; exact hcells
        have hgo := goS_fire (n := atoms.length) (f := atoms.length - j) (out := out) hlt hfk
        refine cw_seq ?_
        refine cw_region ?_
        -- r13.0 t40 := move  t4
        refine ol_pure rfl (op_move rfl) ?_
        -- r13.1 t41 := move  t8
        refine ol_pure rfl (op_move rfl) ?_
        -- r13.2 t42 := fieldAddr [25, 1] t1
        refine ol_pure rfl (op_fieldAddr fld_25_1 rfl) ?_
        -- r13.3 t43 := load [23] t42
        refine ol_load rfl (op_load1 one_23 rfl (fun w hw => (hw.bcell (i := 2) rfl).trans rfl)) hS ?_
        -- r13.4 t44 := move  t8
        refine ol_pure rfl (op_move rfl) ?_
        -- r13.5 t45 := indexAddr [23] t43 t44
        refine ol_pure rfl (op_indexAddr sl_23 rfl rfl (by omega) (by omega) hoa) ?_
        -- r13.6 t46 := fieldAddr [48, 0] t45
        refine ol_pure rfl (op_fieldAddr fld_48_0 rfl) ?_
        -- r13.7 t47 := load [3] t46
        refine ol_load rfl (op_load1 one_3 rfl (fun w hw => hw.gcell0 (hcells2 0 _ rfl))) hS ?_
        -- r13.8 t48 := buildSlice [29, 1] 0:t47
        refine ol_step rfl (op_buildSlice (el := 3) (is := [0]) (xs := [.tmp 47]) (sz := 1) (cs := [.int .i64 rs[k].head]) hS rfl rfl (fun w => by kernel_rfl) rfl (by decide)) ?_
        clear hS
        rintro _ w ⟨s48, rfl, hS⟩
        obtain ⟨G48, hl48, hS2, h48⟩ := SS.give' [rs[k].head] [] EInt.mono hS (by decide) (by exact oneInt _ _ hhd) rfl
        clear hS
        have hS := hS2
        clear hS2
        (try simp only [List.nil_append, List.cons_append] at hS)
        
        -- r13.9 t49 := build [44] 0:t41 1:t48
        refine ol_pure rfl (op_build (is := [0, 1]) (xs := [.tmp 41, .tmp 48]) (v := .agg #[.int .i64 (fireI rs m), .slice s48 1 1]) rfl rfl (fun w => by kernel_rfl)) ?_
        -- r13.10 t50 := buildSlice [28, 1] 0:t49
        refine ol_step rfl (op_buildSlice (el := 44) (is := [0]) (xs := [.tmp 49]) (sz := 2) (cs := [.int .i64 (fireI rs m), .slice s48 1 1]) hS rfl rfl (fun w => by kernel_rfl) rfl (by decide)) ?_
        clear hS
        rintro _ w ⟨s50, rfl, hS⟩
        -- r13.11 t51 := call append t40 t50
        refine ol_step rfl (op_append (j := 2) hS sl_28 el_44 rfl rfl rfl rfl rfl rfl (by decide) (hS.news (j := 0) rfl) (by simp [Value.oneCell']) (by omega) (by unfold maxLen; omega)) ?_
        clear hS
        rintro _ w ⟨o4n, c_o4n, rfl, hS⟩; (try simp only [List.nil_append, List.cons_append, List.set] at hS); replace hS := SS.drop [] hS; (try simp only [List.nil_append, List.cons_append] at hS)
        -- r13.12 t4 := assign  t51
        refine ol_pure rfl (op_assign rfl) ?_
        refine ol_nil ?_
        refine pq_then ?_
        have hrl : rs[k].head.toNat * 1 < (m.map (Value.int .i64)).length := by have := hrk.1; simp; omega
        have hoM := (hS.news (j := 0) rfl _ _ (List.getElem?_eq_getElem hrl)).1
        have hrk0 := hrk.1
        refine cw_region ?_
        -- r14.0 t52 := move  t5
        refine ol_pure rfl (op_move rfl) ?_
        -- r14.1 t53 := fieldAddr [25, 1] t1
        refine ol_pure rfl (op_fieldAddr fld_25_1 rfl) ?_
        -- r14.2 t54 := load [23] t53
        refine ol_load rfl (op_load1 one_23 rfl (fun w hw => (hw.bcell (i := 2) rfl).trans rfl)) hS ?_
        -- r14.3 t55 := move  t8
        refine ol_pure rfl (op_move rfl) ?_
        -- r14.4 t56 := indexAddr [23] t54 t55
        refine ol_pure rfl (op_indexAddr sl_23 rfl rfl (by omega) (by omega) hoa) ?_
        -- r14.5 t57 := fieldAddr [48, 0] t56
        refine ol_pure rfl (op_fieldAddr fld_48_0 rfl) ?_
        -- r14.6 t58 := load [3] t57
        refine ol_load rfl (op_load1 one_3 rfl (fun w hw => hw.gcell0 (hcells2 0 _ rfl))) hS ?_
        -- r14.7 t59 := indexAddr [29] t52 t58
        refine ol_pure rfl (op_indexAddr sl_29 rfl rfl (by omega) (by omega) hoM) ?_
        -- r14.8 _ := store [3] t59 C2
        refine ol_step0  (op_storeR (j := 0) (k := rs[k].head.toNat * 1) hS sz_3 rfl rfl rfl rfl (hrl)) ?_
        clear hS
        rintro _ w hS; (try simp only [List.nil_append, List.cons_append, List.set] at hS)
        rw [Nat.mul_one, ← List.map_set] at hS
        refine ol_nil ?_
        refine pq_in_normal ?_
        refine pq_then ?_
        refine cw_region ?_
        -- r9.0 t28 := move  t7
        refine ol_pure rfl (op_move rfl) ?_
        -- r9.1 t29 := add t28 C1
        refine ol_pure rfl (op_add rfl rfl (by omega) (by omega)) ?_
        -- r9.2 t7 := assign  t29
        refine ol_pure rfl (op_assign rfl) ?_
        refine ol_nil ?_
        -- end of round 2 h17f h27t h39t
        refine pq_loop _ _ (by exact (by
            rw [hgo] at hgs
            refine ⟨j + 1, G48, o4n, l4 + 1, c_o4n, _, out ++ [⟨(k : Int), [rs[k].head]⟩], m.set rs[k].head.toNat 2, rfl, by omega, rfl, by simp [hl4], by rw [hgs, show atoms.length + 1 - (j + 1) = atoms.length - j from by omega], by simpa using hml, fun x hx => ?_, by simp; omega, hl37b.trans hl48, ?_, hS⟩
            · rcases List.mem_or_eq_of_mem_set hx with h5 | h5
              · exact hmb x h5
              · omega
            · exact (hrw.mono EStep.mono (hl37c.trans hl48)).snoc (x := ⟨(k : Int), [rs[k].head]⟩) (cs := [.int .i64 (fireI rs m), .slice s48 1 1]) rfl ⟨_, by rw [hfk], h48, by show (-9223372036854775808 : Int) ≤ (k : Int); omega, by show (k : Int) ≤ 9223372036854775807; omega⟩)) ((Sub.cons rfl (Sub.cons rfl (Sub.cons rfl (Sub.cons rfl Sub.nil))))) (by omega)
      · skip
        try simp only [decide_eq_true_eq, decide_eq_false_iff_not, Bool.not_eq_true', Bool.not_eq_false', Bool.not_eq_eq_eq_not, Bool.not_true, Bool.not_false] at h39
        refine cw_seq ?_
        refine cw_region ?_
        -- r15.0 t60 := move  t9
        refine ol_pure rfl (op_move rfl) ?_
        -- r15.1 t61 := call len t60
        refine ol_pure rfl (op_len sl_29 rfl rfl) ?_
        -- r15.2 t62 := gtr t61 C0
        refine ol_pure rfl (op_gtr rfl rfl) ?_
        refine ol_nil ?_
        refine pq_then ?_
        refine cw_cond rfl (fun h62 => ?_) (fun h62 => ?_)
        · skip
          try simp only [decide_eq_true_eq, decide_eq_false_iff_not, Bool.not_eq_true', Bool.not_eq_false', Bool.not_eq_eq_eq_not, Bool.not_true, Bool.not_false] at h62
          have hgo := goS_unf (n := atoms.length) (rs := rs) (m := m) (f := atoms.length - j) (out := out) (by omega) (by omega)
          refine cw_seq ?_
          refine cw_region ?_
          -- r16.0 t63 := move  t4
          refine ol_pure rfl (op_move rfl) ?_
          -- r16.1 t64 := move  t9
          refine ol_pure rfl (op_move rfl) ?_
          -- r16.2 t65 := build [44] 0:C-1 1:t64
          refine ol_pure rfl (op_build (is := [0, 1]) (xs := [.const (.int .i64 (-1)), .tmp 64]) (v := .agg #[.int .i64 (-1), .slice o37 (openF m (unfI atoms.length rs m)).length c37]) rfl rfl (fun w => by kernel_rfl)) ?_
          -- r16.3 t66 := buildSlice [28, 1] 0:t65
          refine ol_step rfl (op_buildSlice (el := 44) (is := [0]) (xs := [.tmp 65]) (sz := 2) (cs := [.int .i64 (-1), .slice o37 (openF m (unfI atoms.length rs m)).length c37]) hS rfl rfl (fun w => by kernel_rfl) rfl (by decide)) ?_
          clear hS
          rintro _ w ⟨s66, rfl, hS⟩
          -- r16.4 t67 := call append t63 t66
          refine ol_step rfl (op_append (j := 2) hS sl_28 el_44 rfl rfl rfl rfl rfl rfl (by decide) (hS.news (j := 0) rfl) (by simp [Value.oneCell']) (by omega) (by unfold maxLen; omega)) ?_
          clear hS
          rintro _ w ⟨o4n, c_o4n, rfl, hS⟩; (try simp only [List.nil_append, List.cons_append, List.set] at hS); replace hS := SS.drop [] hS; (try simp only [List.nil_append, List.cons_append] at hS)
          -- r16.5 t4 := assign  t67
          refine ol_pure rfl (op_assign rfl) ?_
          refine ol_nil ?_
          refine pq_then ?_
          refine cw_seq ?_
          refine cw_region ?_
          -- r17.0 t10 := assign  C0
          refine ol_pure rfl (op_assign rfl) ?_
          refine ol_nil ?_
          refine pq_then ?_
          refine cw_block ?_
          refine cw_loop (fun e w n => ∃ i : Nat, e = [(1, .pointer (some ⟨b1, 0, none⟩)), (4, .slice o4n (l4 + 1) c_o4n), (5, .slice o5 atoms.length c5), (7, .int .i64 (j : Nat)), (9, .slice o37 (openF m (unfI atoms.length rs m)).length c37), (10, .int .i64 (i : Nat))] ∧ i ≤ (openF m (unfI atoms.length rs m)).length ∧ n = (openF m (unfI atoms.length rs m)).length - i ∧ SS G w0 G37 [.row o5 atoms.length c5 3 1 ((setAll m ((openF m (unfI atoms.length rs m)).take i) 0).map (Value.int .i64)), .row o4n (l4 + 1) c_o4n 44 2 (us ++ [.int .i64 (-1), .slice o37 (openF m (unfI atoms.length rs m)).length c37]), .blk b1 25 [.slice oA atoms.length cA, .slice oR rs.length cR]] w) _ _ (by exact ⟨0, rfl, Nat.zero_le _, rfl, hS⟩) ((Sub.cons rfl (Sub.cons rfl (Sub.cons rfl (Sub.cons rfl (Sub.cons rfl (Sub.cons rfl Sub.nil))))))) ?_
          clear hS
          rintro e w n ⟨i, rfl, hi, rfl, hS⟩
          refine cw_seq ?_
          refine cw_seq ?_
          refine cw_region ?_
          -- r18.0 t68 := move  t10
          refine ol_pure rfl (op_move rfl) ?_
          -- r18.1 t69 := move  t9
          refine ol_pure rfl (op_move rfl) ?_
          -- r18.2 t70 := call len t69
          refine ol_pure rfl (op_len sl_29 rfl rfl) ?_
          -- r18.3 t71 := lss t68 t70
          refine ol_pure rfl (op_lss rfl rfl) ?_
          refine ol_nil ?_
          refine pq_then ?_
          refine cw_cond rfl (fun h71 => ?_) (fun h71 => ?_)
          · skip
            try simp only [decide_eq_true_eq, decide_eq_false_iff_not, Bool.not_eq_true', Bool.not_eq_false', Bool.not_eq_eq_eq_not, Bool.not_true, Bool.not_false] at h71
            have hil : i < (openF m (unfI atoms.length rs m)).length := by omega
            obtain ⟨hoU, hcU, _⟩ := hU.int hil
            have hin := openF_iff.1 (List.getElem_mem hil)
            have hrl : (openF m (unfI atoms.length rs m))[i].toNat * 1 < ((setAll m ((openF m (unfI atoms.length rs m)).take i) 0).map (Value.int .i64)).length := by simp [setAll_len]; omega
            have hoM := (hS.news (j := 0) rfl _ _ (List.getElem?_eq_getElem hrl)).1
            refine cw_skip ?_
            refine pq_then ?_
            refine cw_seq ?_
            refine cw_block ?_
            refine cw_region ?_
            -- r20.0 t74 := move  t5
            refine ol_pure rfl (op_move rfl) ?_
            -- r20.1 t75 := move  t9
            refine ol_pure rfl (op_move rfl) ?_
            -- r20.2 t76 := move  t10
            refine ol_pure rfl (op_move rfl) ?_
            -- r20.3 t77 := indexAddr [29] t75 t76
            refine ol_pure rfl (op_indexN sl_29 rfl rfl (by omega) (by assumption)) ?_
            -- r20.4 t78 := load [3] t77
            refine ol_load rfl (op_load1 one_3 rfl (fun w hw => hw.gcell hcU)) hS ?_
            -- r20.5 t79 := indexAddr [29] t74 t78
            refine ol_pure rfl (op_indexAddr sl_29 rfl rfl (by omega) (by omega) hoM) ?_
            -- r20.6 _ := store [3] t79 C0
            refine ol_step0  (op_storeR (j := 0) (k := (openF m (unfI atoms.length rs m))[i].toNat * 1) hS sz_3 rfl rfl rfl rfl (hrl)) ?_
            clear hS
            rintro _ w hS; (try simp only [List.nil_append, List.cons_append, List.set] at hS)
            have hsn := setAll_snoc m (openF m (unfI atoms.length rs m)) 0 hil
            rw [Nat.mul_one, ← List.map_set, ← hsn] at hS
            refine ol_nil ?_
            refine pq_in_normal ?_
            refine pq_then ?_
            refine cw_region ?_
            -- r19.0 t72 := move  t10
            refine ol_pure rfl (op_move rfl) ?_
            -- r19.1 t73 := add t72 C1
            refine ol_pure rfl (op_add rfl rfl (by omega) (by omega)) ?_
            -- r19.2 t10 := assign  t73
            refine ol_pure rfl (op_assign rfl) ?_
            refine ol_nil ?_
            -- end of round 3 h17f h27t h39f h62t h71t
            refine pq_loop _ _ (by exact ⟨i + 1, rfl, by omega, rfl, hS⟩) ((Sub.cons rfl (Sub.cons rfl (Sub.cons rfl (Sub.cons rfl (Sub.cons rfl (Sub.cons rfl Sub.nil))))))) (by omega)
          · skip
            try simp only [decide_eq_true_eq, decide_eq_false_iff_not, Bool.not_eq_true', Bool.not_eq_false', Bool.not_eq_eq_eq_not, Bool.not_true, Bool.not_false] at h71
            rw [List.take_of_length_le (show (openF m (unfI atoms.length rs m)).length ≤ i by omega)] at hS
            refine cw_exit ?_
            refine pq_exit ?_
            refine pq_exit ?_
            refine pq_in_exit ?_
            refine pq_in_normal ?_
            refine pq_then ?_
            refine cw_region ?_
            -- r9.0 t28 := move  t7
            refine ol_pure rfl (op_move rfl) ?_
            -- r9.1 t29 := add t28 C1
            refine ol_pure rfl (op_add rfl rfl (by omega) (by omega)) ?_
            -- r9.2 t7 := assign  t29
            refine ol_pure rfl (op_assign rfl) ?_
            refine ol_nil ?_
            -- end of round 2 h17f h27t h39f h62t h71f
            refine pq_loop _ _ (by exact (by
                rw [hgo] at hgs
                refine ⟨j + 1, G37, o4n, l4 + 1, c_o4n, _, out ++ [⟨-1, (openF m (unfI atoms.length rs m))⟩], setAll m (openF m (unfI atoms.length rs m)) 0, rfl, by omega, rfl, by simp [hl4], by rw [hgs, show atoms.length + 1 - (j + 1) = atoms.length - j from by omega], by rw [setAll_len, hml], fun x hx => ?_, by simp; omega, hl37b, ?_, hS⟩
                · rcases setAll_mem hx with h5 | h5
                  · omega
                  · exact hmb x h5
                · exact (hrw.mono EStep.mono hl37c).snoc (x := ⟨-1, (openF m (unfI atoms.length rs m))⟩) rfl ⟨_, rfl, hU, by show (-9223372036854775808 : Int) ≤ -1; decide, by show (-1 : Int) ≤ 9223372036854775807; decide⟩)) ((Sub.cons rfl (Sub.cons rfl (Sub.cons rfl (Sub.cons rfl Sub.nil))))) (by omega)
        · skip
          try simp only [decide_eq_true_eq, decide_eq_false_iff_not, Bool.not_eq_true', Bool.not_eq_false', Bool.not_eq_eq_eq_not, Bool.not_true, Bool.not_false] at h62
          refine cw_seq ?_
          refine cw_region ?_
          -- r21.0 t80 := move  t4
          refine ol_pure rfl (op_move rfl) ?_
          -- r21.1 t81 := move  t5
          refine ol_pure rfl (op_move rfl) ?_
          -- r21.2 t2 := assign  t80
          refine ol_pure rfl (op_assign rfl) ?_
          -- r21.3 t3 := assign  t81
          refine ol_pure rfl (op_assign rfl) ?_
          refine ol_nil ?_
          refine pq_then ?_
          refine cw_ret ?_
          refine pq_in_ret ?_
          refine pq_ret ?_
          refine pq_ret ?_
          refine pq_in_ret ?_
          refine pq_ret ?_
          refine ret2 rfl rfl rfl ?_
          -- ret1 h17f h27t h39f h62f
          obtain ⟨Ga, hla, hSa, hMa⟩ := SS.give (zs := m) [] hS (by decide) EInt.mono (Rows.of_map (xs := m) (f := Value.int .i64) (E := EInt) (fun y hy => ⟨rfl, by have := hmb y hy; omega⟩)) hml.symm
          simp only [List.nil_append] at hSa
          obtain ⟨Gb, hlb, hSb, hOb⟩ := SS.give (zs := out) [] hSa (by decide) EStep.mono (hrw.mono EStep.mono (by first | exact hl37c.trans hla | exact hla)) hl4
          have hfin : stepsI atoms.length rs = (out, m) := by unfold stepsI; rw [hgs, goS_end (by omega) (by omega)]
          exact hSb.rt _ ⟨_, _, rfl, by rw [hfin]; exact hOb, by rw [hfin]; exact hMa.mono EInt.mono hlb⟩
    · skip
      try simp only [decide_eq_true_eq, decide_eq_false_iff_not, Bool.not_eq_true', Bool.not_eq_false', Bool.not_eq_eq_eq_not, Bool.not_true, Bool.not_false] at h27
      refine cw_exit ?_
      refine pq_exit ?_
      refine pq_exit ?_
      refine pq_in_exit ?_
      refine pq_then ?_
      refine cw_seq ?_
      refine cw_region ?_
      -- r22.0 t82 := move  t4
      refine ol_pure rfl (op_move rfl) ?_
      -- r22.1 t83 := move  t5
      refine ol_pure rfl (op_move rfl) ?_
      -- r22.2 t2 := assign  t82
      refine ol_pure rfl (op_assign rfl) ?_
      -- r22.3 t3 := assign  t83
      refine ol_pure rfl (op_assign rfl) ?_
      refine ol_nil ?_
      refine pq_then ?_
      refine cw_ret ?_
      refine ret2 rfl rfl rfl ?_
      -- ret2 h17f h27f
      obtain ⟨Ga, hla, hSa, hMa⟩ := SS.give (zs := m) [] hS (by decide) EInt.mono (Rows.of_map (xs := m) (f := Value.int .i64) (E := EInt) (fun y hy => ⟨rfl, by have := hmb y hy; omega⟩)) hml.symm
      simp only [List.nil_append] at hSa
      obtain ⟨Gb, hlb, hSb, hOb⟩ := SS.give (zs := out) [] hSa (by decide) EStep.mono (hrw.mono EStep.mono (by first | exact hl37c.trans hla | exact hla)) hl4
      have hfin : stepsI atoms.length rs = (out, m) := by unfold stepsI; rw [hgs, show atoms.length + 1 - j = 0 from by omega, goS]
      exact hSb.rt _ ⟨_, _, rfl, by rw [hfin]; exact hOb, by rw [hfin]; exact hMa.mono EInt.mono hlb⟩
end Go.Proofs.Ytbpmkidaoemebaa.K
