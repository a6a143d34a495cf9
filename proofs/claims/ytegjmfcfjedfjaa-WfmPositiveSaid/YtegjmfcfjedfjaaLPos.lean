/-
  The walk of WfmPositive.
  No condition but the premises that each theorem names.
-/
import Derived.Test.YtegjmfcfjedfjaaLUnf
import Derived.Test.YtegjmfcfjedfjaaPlp
namespace Go.Proofs.Ytegjmfcfjedfjaa.K
open Go Go.RowKit
set_option linter.unusedVariables false
set_option linter.unusedSimpArgs false

open Pl

set_option maxRecDepth 100000 in
set_option maxHeartbeats 1000000 in

theorem L17_WfmPositive_c (G : GH) (w0 : World) (hG : Holds G w0) (va vr : Value) (atoms : List (List Cell)) (rs : List Rule) (h1 : RSl 1 EAtom G va atoms) (h2 : RSl 3 ERule G vr rs) (keep : Bool) :
    Calls Try.prog 11 #[.agg #[va, vr], .bool keep] w0 (Sc w0 (.bool true)) := by
  obtain ⟨oA, cA, rfl, hlA, hmA⟩ := h1.elim
  obtain ⟨oR, cR, rfl, hlR, hmR⟩ := h2.elim
  refine enter Try.func11 rfl (N := 102) rfl (Nat.le_of_ble_eq_true rfl) ?_
  have hS := SS.init hG
  refine cw_seq ?_
  refine cw_region ?_
  -- r0.0 t2 := box [25] t0
  refine ol_step rfl (op_box hS rfl rfl) ?_
  clear hS
  rintro _ w ⟨b2, rfl, hS⟩
  -- r0.1 t4 := assign  Cfalse
  refine ol_pure rfl (op_assign rfl) ?_
  refine ol_nil ?_
  refine pq_then ?_
  refine cw_seq ?_
  refine cw_region ?_
  -- r1.0 t15 := call f12 
  refine ol_step rfl (op_call_sc hS cf_12 rfl (L17_head_c G _ hS.hold)) ?_
  clear hS
  rintro _ w ⟨rfl, hS⟩
  -- r1.1 t5 := assign  t15
  refine ol_pure rfl (op_assign rfl) ?_
  refine ol_nil ?_
  refine pq_then ?_
  refine cw_seq ?_
  refine cw_seq ?_
  refine cw_region ?_
  -- r2.0 t16 := load [25] t2
  refine ol_load rfl (op_loadN agg_25 rfl (by rfl) (fun w hw k u hk => (hw.bcell (i := 0) rfl).trans hk)) hS ?_
  -- r2.1 t17 := call f13 t16
  refine ol_step rfl (op_call_sc hS cf_13 rfl (L17_may_c G _ hS.hold _ _ atoms rs h1 h2)) ?_
  clear hS
  rintro _ w ⟨rfl, hS⟩
  -- r2.2 t18 := not t17
  refine ol_pure rfl (op_not rfl) ?_
  refine ol_nil ?_
  refine pq_then ?_
  refine cw_cond rfl (fun h18 => ?_) (fun h18 => ?_)
  · skip
    try simp only [decide_eq_true_eq, decide_eq_false_iff_not, Bool.not_eq_true', Bool.not_eq_false', Bool.not_eq_eq_eq_not, Bool.not_true, Bool.not_false] at h18
    refine cw_seq ?_
    refine cw_region ?_
    -- r3.0 t19 := move  t5
    refine ol_pure rfl (op_move rfl) ?_
    -- r3.1 t4 := assign  t19
    refine ol_pure rfl (op_assign rfl) ?_
    refine ol_nil ?_
    refine pq_then ?_
    refine cw_ret ?_
    refine pq_ret ?_
    refine ret1 rfl rfl ?_
    -- ret1 h18t
    exact hS.sc_b rfl
  · skip
    try simp only [decide_eq_true_eq, decide_eq_false_iff_not, Bool.not_eq_true', Bool.not_eq_false', Bool.not_eq_eq_eq_not, Bool.not_true, Bool.not_false] at h18
    have hmay : fewP atoms rs = true ∧ RightP atoms rs := by
      rw [Bool.and_eq_true, rightPB_iff] at h18
      exact h18
    have hP := PrOk.of_may hmay.1 hmay.2
    have hPn := hP.n_le
    have hPm := hP.m_le
    have hle := Le.refl G
    refine cw_skip ?_
    refine pq_then ?_
    refine cw_seq ?_
    refine cw_region ?_
    -- r4.0 t20 := fieldAddr [25, 0] t2
    refine ol_pure rfl (op_fieldAddr fld_25_0 rfl) ?_
    -- r4.1 t21 := load [22] t20
    refine ol_load rfl (op_load1 one_22 rfl (fun w hw => (hw.bcell (i := 0) rfl).trans rfl)) hS ?_
    -- r4.2 t22 := call len t21
    refine ol_pure rfl (op_len sl_22 rfl rfl) ?_
    -- r4.3 t23 := makeSlice [26] t22 t22
    refine ol_step rfl (op_makeSlice (n := atoms.length) hS sl_26 el_4 rfl rfl rfl (by omega) (by unfold maxLen; omega)) ?_
    clear hS
    rintro _ w ⟨hds, rfl, hS⟩
    -- r4.4 t6 := assign  t23
    refine ol_pure rfl (op_assign rfl) ?_
    refine ol_nil ?_
    refine pq_then ?_
    refine cw_seq ?_
    refine cw_seq ?_
    refine cw_region ?_
    -- r5.0 t7 := assign  C0
    refine ol_pure rfl (op_assign rfl) ?_
    refine ol_nil ?_
    refine pq_then ?_
    refine cw_block ?_
    refine cw_loop (fun e w n => ∃ k : Nat, e = [(1, .bool keep), (2, .pointer (some ⟨b2, 0, none⟩)), (5, .bool true), (6, .slice hds atoms.length atoms.length), (7, .int .i64 (k : Nat))] ∧ k ≤ rs.length ∧ n = rs.length - k ∧ SS G w0 G [.row hds atoms.length atoms.length 4 1 ((headsB atoms.length (rs.take k)).map Value.bool), .blk b2 25 [.slice oA atoms.length cA, .slice oR rs.length cR]] w) _ _ (by exact ⟨0, rfl, Nat.zero_le _, rfl, by simpa [headsB] using hS⟩) ((Sub.cons rfl (Sub.cons rfl (Sub.cons rfl (Sub.cons rfl (Sub.cons rfl Sub.nil)))))) ?_
    clear hS
    rintro e w n ⟨k, rfl, hk, rfl, hS⟩
    refine cw_seq ?_
    refine cw_seq ?_
    refine cw_region ?_
    -- r6.0 t24 := move  t7
    refine ol_pure rfl (op_move rfl) ?_
    -- r6.1 t25 := fieldAddr [25, 1] t2
    refine ol_pure rfl (op_fieldAddr fld_25_1 rfl) ?_
    -- r6.2 t26 := load [23] t25
    refine ol_load rfl (op_load1 one_23 rfl (fun w hw => (hw.bcell (i := 1) rfl).trans rfl)) hS ?_
    -- r6.3 t27 := call len t26
    refine ol_pure rfl (op_len sl_23 rfl rfl) ?_
    -- r6.4 t28 := lss t24 t27
    refine ol_pure rfl (op_lss rfl rfl) ?_
    refine ol_nil ?_
    refine pq_then ?_
    refine cw_cond rfl (fun h28 => ?_) (fun h28 => ?_)
    · skip
      try simp only [decide_eq_true_eq, decide_eq_false_iff_not, Bool.not_eq_true', Bool.not_eq_false', Bool.not_eq_eq_eq_not, Bool.not_true, Bool.not_false] at h28
      have hlt : k < rs.length := by omega
      have hrk := (hP.rule _ (List.getElem_mem hlt)).1
      obtain ⟨hoa, cs, hcl, ⟨p, q, rfl, hp, hq, hhd⟩, hcells⟩ := h2.el hlt
      obtain ⟨op, cp, hpe, hlp, hmp⟩ := hp.elim
      obtain ⟨oq, cq, hqe, hlq, hmq⟩ := hq.elim
      subst hpe
      subst hqe
      obtain ⟨hd, hhe⟩ := Int.eq_ofNat_of_zero_le hrk.1.1
      have hdl : hd < atoms.length := by have := hrk.1.2; omega
      have hq0 : ∀ x ∈ rs[k].neg, 0 ≤ x := fun x hx => (hrk.2.2 x hx).1
      simp only [hhe] at hcells
      refine cw_skip ?_
      refine pq_then ?_
      refine cw_seq ?_
      refine cw_block ?_
      refine cw_region ?_
      -- r8.0 t31 := move  t6
      refine ol_pure rfl (op_move rfl) ?_
      -- r8.1 t32 := fieldAddr [25, 1] t2
      refine ol_pure rfl (op_fieldAddr fld_25_1 rfl) ?_
      -- r8.2 t33 := load [23] t32
      refine ol_load rfl (op_load1 one_23 rfl (fun w hw => (hw.bcell (i := 1) rfl).trans rfl)) hS ?_
      -- r8.3 t34 := move  t7
      refine ol_pure rfl (op_move rfl) ?_
      -- r8.4 t35 := indexAddr [23] t33 t34
      refine ol_pure rfl (op_indexN sl_23 rfl rfl (by omega) (by assumption)) ?_
      -- r8.5 t36 := fieldAddr [42, 0] t35
      refine ol_pure rfl (op_fieldAddr fld_42_0 rfl) ?_
      -- r8.6 t37 := load [3] t36
      refine ol_load rfl (op_load1 one_3 rfl (fun w hw => hw.gcell (hcells 0 _ rfl))) hS ?_
      -- r8.7 t38 := indexAddr [26] t31 t37
      have hoo := (hS.news (j := 0) rfl hd _ (List.getElem?_eq_getElem (by simp [headsB_len]; omega))).1
      refine ol_pure rfl (op_indexN sl_26 rfl rfl (by omega) (by assumption)) ?_
      -- r8.8 _ := store [4] t38 Ctrue
      refine ol_step0  (op_storeR (j := 0) (k := hd * 1) hS sz_4 rfl rfl rfl rfl (by simp [headsB_len]; omega)) ?_
      clear hS
      rintro _ w hS; (try simp only [List.nil_append, List.cons_append, List.set] at hS)
      refine ol_nil ?_
      refine pq_in_normal ?_
      refine pq_then ?_
      refine cw_region ?_
      -- r7.0 t29 := move  t7
      refine ol_pure rfl (op_move rfl) ?_
      -- r7.1 t30 := add t29 C1
      refine ol_pure rfl (op_add rfl rfl (by omega) (by omega)) ?_
      -- r7.2 t7 := assign  t30
      refine ol_pure rfl (op_assign rfl) ?_
      refine ol_nil ?_
      -- end of round 1 h18f h28t
      refine pq_loop _ _ (by exact (by have hm2 := headsB_take (n := atoms.length) hlt; rw [hhe, Int.toNat_natCast] at hm2; rw [Nat.mul_one, ← List.map_set, ← hm2] at hS; exact ⟨k + 1, rfl, by omega, rfl, hS⟩)) ((Sub.cons rfl (Sub.cons rfl (Sub.cons rfl (Sub.cons rfl (Sub.cons rfl Sub.nil)))))) (by omega)
    · skip
      try simp only [decide_eq_true_eq, decide_eq_false_iff_not, Bool.not_eq_true', Bool.not_eq_false', Bool.not_eq_eq_eq_not, Bool.not_true, Bool.not_false] at h28
      rw [List.take_of_length_le (by omega)] at hS
      clear hk h28
      refine cw_exit ?_
      refine pq_exit ?_
      refine pq_exit ?_
      refine pq_in_exit ?_
      refine pq_then ?_
      refine cw_seq ?_
      refine cw_region ?_
      -- r9.0 t39 := buildSlice [23, 0] 
      refine ol_step rfl (op_buildSlice (el := 42) (is := []) (xs := []) (sz := 3) (cs := []) hS rfl rfl (fun w => by kernel_rfl) rfl (by decide)) ?_
      clear hS
      rintro _ w ⟨o8, rfl, hS⟩
      -- r9.1 t8 := assign  t39
      refine ol_pure rfl (op_assign rfl) ?_
      refine ol_nil ?_
      refine pq_then ?_
      refine cw_seq ?_
      refine cw_seq ?_
      refine cw_region ?_
      -- r10.0 t9 := assign  C0
      refine ol_pure rfl (op_assign rfl) ?_
      refine ol_nil ?_
      refine pq_then ?_
      refine cw_block ?_
      refine cw_loop (fun e w n => ∃ k o8 l8 c8 us, e = [(1, .bool keep), (2, .pointer (some ⟨b2, 0, none⟩)), (5, .bool true), (6, .slice hds atoms.length atoms.length), (8, .slice o8 l8 c8), (9, .int .i64 (k : Nat))] ∧ k ≤ rs.length ∧ n = rs.length - k ∧ l8 = ((rs.take k).filter (keepB keep (headsB atoms.length rs))).length ∧ Rows 3 ERule G us ((rs.take k).filter (keepB keep (headsB atoms.length rs))) ∧ SS G w0 G [.row o8 l8 c8 42 3 us, .row hds atoms.length atoms.length 4 1 ((headsB atoms.length rs).map Value.bool), .blk b2 25 [.slice oA atoms.length cA, .slice oR rs.length cR]] w) _ _ (by exact ⟨0, o8, 0, _, [], rfl, Nat.zero_le _, rfl, rfl, Rows.nil _, hS⟩) ((Sub.cons rfl (Sub.cons rfl (Sub.cons rfl (Sub.cons rfl (Sub.cons rfl (Sub.cons rfl Sub.nil))))))) ?_
      clear hS
      rintro e w n ⟨k, o8, l8, c8, us, rfl, hk, rfl, hl8, hrw, hS⟩
      refine cw_seq ?_
      refine cw_seq ?_
      refine cw_region ?_
      -- r11.0 t40 := move  t9
      refine ol_pure rfl (op_move rfl) ?_
      -- r11.1 t41 := fieldAddr [25, 1] t2
      refine ol_pure rfl (op_fieldAddr fld_25_1 rfl) ?_
      -- r11.2 t42 := load [23] t41
      refine ol_load rfl (op_load1 one_23 rfl (fun w hw => (hw.bcell (i := 2) rfl).trans rfl)) hS ?_
      -- r11.3 t43 := call len t42
      refine ol_pure rfl (op_len sl_23 rfl rfl) ?_
      -- r11.4 t44 := lss t40 t43
      refine ol_pure rfl (op_lss rfl rfl) ?_
      refine ol_nil ?_
      refine pq_then ?_
      refine cw_cond rfl (fun h44 => ?_) (fun h44 => ?_)
      · skip
        try simp only [decide_eq_true_eq, decide_eq_false_iff_not, Bool.not_eq_true', Bool.not_eq_false', Bool.not_eq_eq_eq_not, Bool.not_true, Bool.not_false] at h44
        have hlt : k < rs.length := by omega
        have hrk := (hP.rule _ (List.getElem_mem hlt)).1
        obtain ⟨hoa, cs, hcl, ⟨p, q, rfl, hp, hq, hhd⟩, hcells⟩ := h2.el hlt
        obtain ⟨op, cp, hpe, hlp, hmp⟩ := hp.elim
        obtain ⟨oq, cq, hqe, hlq, hmq⟩ := hq.elim
        subst hpe
        subst hqe
        obtain ⟨hd, hhe⟩ := Int.eq_ofNat_of_zero_le hrk.1.1
        have hdl : hd < atoms.length := by have := hrk.1.2; omega
        have hq0 : ∀ x ∈ rs[k].neg, 0 ≤ x := fun x hx => (hrk.2.2 x hx).1
        simp only [hhe] at hcells
        have hfl := filter_take_len (keepB keep (headsB atoms.length rs)) rs k
        refine cw_skip ?_
        refine pq_then ?_
        refine cw_seq ?_
        refine cw_block ?_
        refine cw_seq ?_
        refine cw_region ?_
        -- r13.0 t47 := fieldAddr [25, 1] t2
        refine ol_pure rfl (op_fieldAddr fld_25_1 rfl) ?_
        -- r13.1 t48 := load [23] t47
        refine ol_load rfl (op_load1 one_23 rfl (fun w hw => (hw.bcell (i := 2) rfl).trans rfl)) hS ?_
        -- r13.2 t49 := move  t9
        refine ol_pure rfl (op_move rfl) ?_
        -- r13.3 t50 := indexAddr [23] t48 t49
        refine ol_pure rfl (op_indexN sl_23 rfl rfl (by omega) (by assumption)) ?_
        -- r13.4 t51 := load [42] t50
        refine ol_load rfl (op_loadN agg_42 rfl (by rfl) (fun w hw k u hk => hw.gcell (hcells k u hk))) hS ?_
        -- r13.5 t10 := alloc [42] 
        refine ol_step rfl (op_alloc hS el_42 rfl) ?_
        clear hS
        rintro _ w ⟨b10, rfl, hS⟩
        -- r13.6 _ := store [42] t10 t51
        refine ol_step0  (op_storeN (j := 0) hS sz_42 rfl rfl rfl rfl rfl (by simp [Value.oneCell'])) ?_
        clear hS
        rintro _ w hS; (try simp only [List.nil_append, List.cons_append, List.set] at hS)
        refine ol_nil ?_
        refine pq_then ?_
        refine cw_seq ?_
        refine cw_region ?_
        -- r14.0 t52 := fieldAddr [42, 2] t10
        refine ol_pure rfl (op_fieldAddr fld_42_2 rfl) ?_
        -- r14.1 t53 := load [27] t52
        refine ol_load rfl (op_load1 one_27 rfl (fun w hw => (hw.bcell (i := 0) rfl).trans rfl)) hS ?_
        -- r14.2 t54 := call len t53
        refine ol_pure rfl (op_len sl_27 rfl rfl) ?_
        -- r14.3 t55 := eql t54 C0
        refine ol_pure rfl (op_eql rfl rfl) ?_
        -- r14.4 t56 := move  t55
        refine ol_pure rfl (op_move rfl) ?_
        refine ol_split (fun h56 => ?_) (fun h56 => ?_)
        · skip
          try simp only [decide_eq_true_eq, decide_eq_false_iff_not, Bool.not_eq_true', Bool.not_eq_false', Bool.not_eq_eq_eq_not, Bool.not_true, Bool.not_false] at h56
          refine ol_guard_no rfl rfl rfl rfl ?_
          refine ol_guard_no rfl rfl rfl rfl ?_
          refine ol_guard_undef rfl rfl rfl ?_
          refine ol_guard_undef rfl rfl rfl ?_
          refine ol_guard_undef rfl rfl rfl ?_
          refine ol_guard_undef rfl rfl rfl ?_
          refine ol_guard_undef rfl rfl rfl ?_
          refine ol_guard_no rfl rfl rfl rfl ?_
          -- r14.13 t65 := pick  t56 Ctrue t64
          refine ol_pure rfl (op_pick_t rfl rfl) ?_
          refine ol_nil ?_
          refine pq_then ?_
          refine cw_cond_t rfl ?_
          refine cw_region ?_
          -- r15.0 t66 := move  t8
          refine ol_pure rfl (op_move rfl) ?_
          -- r15.1 t67 := load [42] t10
          refine ol_load rfl (op_loadN agg_42 rfl (by rfl) (fun w hw k u hk => (hw.bcell (i := 0) rfl).trans hk)) hS ?_
          -- r15.2 t68 := buildSlice [23, 1] 0:t67
          refine ol_step rfl (op_buildSlice (el := 42) (is := [0]) (xs := [.tmp 67]) (sz := 3) (cs := [.int .i64 (hd : Nat), .slice op rs[k].pos.length cp, .slice oq rs[k].neg.length cq]) hS rfl rfl (fun w => by kernel_rfl) rfl (by decide)) ?_
          clear hS
          rintro _ w ⟨s68, rfl, hS⟩
          -- r15.3 t69 := call append t66 t68
          refine ol_step rfl (op_append (j := 2) hS sl_23 el_42 rfl rfl rfl rfl rfl rfl (by decide) (hS.news (j := 0) rfl) (by simp [Value.oneCell']) (by omega) (by unfold maxLen; omega)) ?_
          clear hS
          rintro _ w ⟨o8n, c_o8n, rfl, hS⟩; (try simp only [List.nil_append, List.cons_append, List.set] at hS); replace hS := SS.drop [] hS; (try simp only [List.nil_append, List.cons_append] at hS)
          -- r15.4 t8 := assign  t69
          refine ol_pure rfl (op_assign rfl) ?_
          refine ol_nil ?_
          refine pq_in_normal ?_
          refine pq_then ?_
          refine cw_region ?_
          -- r12.0 t45 := move  t9
          refine ol_pure rfl (op_move rfl) ?_
          -- r12.1 t46 := add t45 C1
          refine ol_pure rfl (op_add rfl rfl (by omega) (by omega)) ?_
          -- r12.2 t9 := assign  t46
          refine ol_pure rfl (op_assign rfl) ?_
          refine ol_nil ?_
          -- end of round 2 h18f h28f h44t h56t
          refine pq_loop _ _ (by exact (by
              have hkb : keepB keep (headsB atoms.length rs) rs[k] = true := by unfold keepB; rw [decide_eq_true (by omega)]; rfl
              have hf := filter_take_t (keepB keep (headsB atoms.length rs)) rs k hlt hkb
              replace hS := SS.drop [] hS
              exact ⟨k + 1, o8n, l8 + 1, c_o8n, _, rfl, by omega, rfl, by rw [hf]; simp [hl8], by rw [hf]; exact hrw.snoc (x := rs[k]) (cs := [.int .i64 (hd : Nat), .slice op rs[k].pos.length cp, .slice oq rs[k].neg.length cq]) rfl ⟨_, _, by rw [hhe], hp, hq, hhd⟩, hS⟩)) ((Sub.cons rfl (Sub.cons rfl (Sub.cons rfl (Sub.cons rfl (Sub.cons rfl (Sub.cons rfl Sub.nil))))))) (by omega)
        · skip
          try simp only [decide_eq_true_eq, decide_eq_false_iff_not, Bool.not_eq_true', Bool.not_eq_false', Bool.not_eq_eq_eq_not, Bool.not_true, Bool.not_false] at h56
          -- r14.5 t57 := move  t1 ?4=False
          refine ol_guard_pure rfl rfl rfl (op_move rfl) ?_
          -- r14.6 t58 := move  t57 ?4=False
          refine ol_guard_pure rfl rfl rfl (op_move rfl) ?_
          refine ol_split (fun h58 => ?_) (fun h58 => ?_)
          · skip
            try simp only [decide_eq_true_eq, decide_eq_false_iff_not, Bool.not_eq_true', Bool.not_eq_false', Bool.not_eq_eq_eq_not, Bool.not_true, Bool.not_false] at h58
            -- r14.7 t59 := move  t6 ?6=True
            refine ol_guard_pure rfl rfl rfl (op_move rfl) ?_
            -- r14.8 t60 := fieldAddr [42, 2] t10 ?6=True
            refine ol_guard_pure rfl rfl rfl (op_fieldAddr fld_42_2 rfl) ?_
            -- r14.9 t61 := load [27] t60 ?6=True
            refine ol_guard_load rfl rfl rfl (op_load1 one_27 rfl (fun w hw => (hw.bcell (i := 0) rfl).trans rfl)) hS ?_
            -- r14.10 t62 := call f29 t59 t61 ?6=True
            have hlend := SS.lend [_, _] hS (by decide) EBool.mono (Rows.boolsG G (headsB atoms.length rs)) (headsB_len _ _).symm
            refine ol_guard_step rfl rfl rfl (op_call_sc hS cf_29 rfl (R17_Any_c (fullG _) _ (Holds.full _) _ _ (headsB atoms.length rs) rs[k].neg hlend (hq.mono EInt.mono hS.hold.le_full) hq0)) ?_
            clear hS
            rintro _ w ⟨rfl, hS⟩
            -- r14.11 t63 := not t62 ?6=True
            refine ol_guard_pure rfl rfl rfl (op_not rfl) ?_
            -- r14.12 t64 := pick  t58 t63 Cfalse ?4=False
            refine ol_guard_pure rfl rfl rfl (op_pick_t rfl rfl) ?_
            -- r14.13 t65 := pick  t56 Ctrue t64
            refine ol_pure rfl (op_pick_f rfl rfl) ?_
            refine ol_nil ?_
            refine pq_then ?_
            refine cw_cond rfl (fun h65 => ?_) (fun h65 => ?_)
            · skip
              try simp only [decide_eq_true_eq, decide_eq_false_iff_not, Bool.not_eq_true', Bool.not_eq_false', Bool.not_eq_eq_eq_not, Bool.not_true, Bool.not_false] at h65
              refine cw_region ?_
              -- r15.0 t66 := move  t8
              refine ol_pure rfl (op_move rfl) ?_
              -- r15.1 t67 := load [42] t10
              refine ol_load rfl (op_loadN agg_42 rfl (by rfl) (fun w hw k u hk => (hw.bcell (i := 0) rfl).trans hk)) hS ?_
              -- r15.2 t68 := buildSlice [23, 1] 0:t67
              refine ol_step rfl (op_buildSlice (el := 42) (is := [0]) (xs := [.tmp 67]) (sz := 3) (cs := [.int .i64 (hd : Nat), .slice op rs[k].pos.length cp, .slice oq rs[k].neg.length cq]) hS rfl rfl (fun w => by kernel_rfl) rfl (by decide)) ?_
              clear hS
              rintro _ w ⟨s68, rfl, hS⟩
              -- r15.3 t69 := call append t66 t68
              refine ol_step rfl (op_append (j := 2) hS sl_23 el_42 rfl rfl rfl rfl rfl rfl (by decide) (hS.news (j := 0) rfl) (by simp [Value.oneCell']) (by omega) (by unfold maxLen; omega)) ?_
              clear hS
              rintro _ w ⟨o8n, c_o8n, rfl, hS⟩; (try simp only [List.nil_append, List.cons_append, List.set] at hS); replace hS := SS.drop [] hS; (try simp only [List.nil_append, List.cons_append] at hS)
              -- r15.4 t8 := assign  t69
              refine ol_pure rfl (op_assign rfl) ?_
              refine ol_nil ?_
              refine pq_in_normal ?_
              refine pq_then ?_
              refine cw_region ?_
              -- r12.0 t45 := move  t9
              refine ol_pure rfl (op_move rfl) ?_
              -- r12.1 t46 := add t45 C1
              refine ol_pure rfl (op_add rfl rfl (by omega) (by omega)) ?_
              -- r12.2 t9 := assign  t46
              refine ol_pure rfl (op_assign rfl) ?_
              refine ol_nil ?_
              -- end of round 2 h18f h28f h44t h56f h58t h65t
              refine pq_loop _ _ (by exact (by
                  have hkb : keepB keep (headsB atoms.length rs) rs[k] = true := by unfold keepB; simp_all
                  have hf := filter_take_t (keepB keep (headsB atoms.length rs)) rs k hlt hkb
                  replace hS := SS.drop [] hS
                  exact ⟨k + 1, o8n, l8 + 1, c_o8n, _, rfl, by omega, rfl, by rw [hf]; simp [hl8], by rw [hf]; exact hrw.snoc (x := rs[k]) (cs := [.int .i64 (hd : Nat), .slice op rs[k].pos.length cp, .slice oq rs[k].neg.length cq]) rfl ⟨_, _, by rw [hhe], hp, hq, hhd⟩, hS⟩)) ((Sub.cons rfl (Sub.cons rfl (Sub.cons rfl (Sub.cons rfl (Sub.cons rfl (Sub.cons rfl Sub.nil))))))) (by omega)
            · skip
              try simp only [decide_eq_true_eq, decide_eq_false_iff_not, Bool.not_eq_true', Bool.not_eq_false', Bool.not_eq_eq_eq_not, Bool.not_true, Bool.not_false] at h65
              refine cw_skip ?_
              refine pq_in_normal ?_
              refine pq_then ?_
              refine cw_region ?_
              -- r12.0 t45 := move  t9
              refine ol_pure rfl (op_move rfl) ?_
              -- r12.1 t46 := add t45 C1
              refine ol_pure rfl (op_add rfl rfl (by omega) (by omega)) ?_
              -- r12.2 t9 := assign  t46
              refine ol_pure rfl (op_assign rfl) ?_
              refine ol_nil ?_
              -- end of round 2 h18f h28f h44t h56f h58t h65f
              refine pq_loop _ _ (by exact (by
                  have hkb : keepB keep (headsB atoms.length rs) rs[k] = false := by unfold keepB; simp_all <;> omega
                  have hf := filter_take_f (keepB keep (headsB atoms.length rs)) rs k hlt hkb
                  replace hS := SS.drop [] hS
                  exact ⟨k + 1, o8, l8, c8, us, rfl, by omega, rfl, by rw [hf]; exact hl8, by rw [hf]; exact hrw, hS⟩)) ((Sub.cons rfl (Sub.cons rfl (Sub.cons rfl (Sub.cons rfl (Sub.cons rfl (Sub.cons rfl Sub.nil))))))) (by omega)
          · skip
            try simp only [decide_eq_true_eq, decide_eq_false_iff_not, Bool.not_eq_true', Bool.not_eq_false', Bool.not_eq_eq_eq_not, Bool.not_true, Bool.not_false] at h58
            refine ol_guard_no rfl rfl rfl rfl ?_
            refine ol_guard_no rfl rfl rfl rfl ?_
            refine ol_guard_no rfl rfl rfl rfl ?_
            refine ol_guard_no rfl rfl rfl rfl ?_
            refine ol_guard_no rfl rfl rfl rfl ?_
            -- r14.12 t64 := pick  t58 t63 Cfalse ?4=False
            refine ol_guard_pure rfl rfl rfl (op_pick_f rfl rfl) ?_
            -- r14.13 t65 := pick  t56 Ctrue t64
            refine ol_pure rfl (op_pick_f rfl rfl) ?_
            refine ol_nil ?_
            refine pq_then ?_
            refine cw_cond_f rfl ?_
            refine cw_skip ?_
            refine pq_in_normal ?_
            refine pq_then ?_
            refine cw_region ?_
            -- r12.0 t45 := move  t9
            refine ol_pure rfl (op_move rfl) ?_
            -- r12.1 t46 := add t45 C1
            refine ol_pure rfl (op_add rfl rfl (by omega) (by omega)) ?_
            -- r12.2 t9 := assign  t46
            refine ol_pure rfl (op_assign rfl) ?_
            refine ol_nil ?_
            -- end of round 2 h18f h28f h44t h56f h58f
            refine pq_loop _ _ (by exact (by
                have hkb : keepB keep (headsB atoms.length rs) rs[k] = false := by unfold keepB; simp_all <;> omega
                have hf := filter_take_f (keepB keep (headsB atoms.length rs)) rs k hlt hkb
                replace hS := SS.drop [] hS
                exact ⟨k + 1, o8, l8, c8, us, rfl, by omega, rfl, by rw [hf]; exact hl8, by rw [hf]; exact hrw, hS⟩)) ((Sub.cons rfl (Sub.cons rfl (Sub.cons rfl (Sub.cons rfl (Sub.cons rfl (Sub.cons rfl Sub.nil))))))) (by omega)
      · skip
        try simp only [decide_eq_true_eq, decide_eq_false_iff_not, Bool.not_eq_true', Bool.not_eq_false', Bool.not_eq_eq_eq_not, Bool.not_true, Bool.not_false] at h44
        rw [List.take_of_length_le (by omega)] at hl8 hrw
        obtain ⟨G1, hl1, hS2, hRk⟩ := SS.give [] hS (by decide) ERule.mono hrw hl8
        clear hS
        have hS := hS2
        clear hS2
        simp only [List.nil_append] at hS
        subst hl8
        have hPk := pos_okP hP (keepB keep (headsB atoms.length rs))
        have hle := hl1
        have hlr := Le.refl G1
        refine cw_exit ?_
        refine pq_exit ?_
        refine pq_exit ?_
        refine pq_in_exit ?_
        refine pq_then ?_
        refine cw_seq ?_
        refine cw_region ?_
        -- r16.0 t70 := fieldAddr [25, 0] t2
        refine ol_pure rfl (op_fieldAddr fld_25_0 rfl) ?_
        -- r16.1 t71 := load [22] t70
        refine ol_load rfl (op_load1 one_22 rfl (fun w hw => (hw.bcell (i := 1) rfl).trans rfl)) hS ?_
        -- r16.2 t72 := move  t8
        refine ol_pure rfl (op_move rfl) ?_
        -- r16.3 t73 := build [25] 0:t71 1:t72
        refine ol_pure rfl (op_build (is := [0, 1]) (xs := [.tmp 71, .tmp 72]) (v := .agg #[.slice oA atoms.length cA, .slice o8 (rs.filter (keepB keep (headsB atoms.length rs))).length c8]) rfl rfl (fun w => by kernel_rfl)) ?_
        -- r16.4 t11 := alloc [25] 
        refine ol_step rfl (op_alloc hS el_25 rfl) ?_
        clear hS
        rintro _ w ⟨b11, rfl, hS⟩
        -- r16.5 _ := store [25] t11 t73
        refine ol_step0  (op_storeN (j := 0) hS sz_25 rfl rfl rfl rfl rfl (by simp [Value.oneCell'])) ?_
        clear hS
        rintro _ w hS; (try simp only [List.nil_append, List.cons_append, List.set] at hS)
        refine ol_nil ?_
        refine pq_then ?_
        refine cw_seq ?_
        refine cw_region ?_
        -- r17.0 t74 := load [25] t11
        refine ol_load rfl (op_loadN agg_25 rfl (by rfl) (fun w hw k u hk => (hw.bcell (i := 0) rfl).trans hk)) hS ?_
        -- r17.1 t75 := call f18 t74
        refine ol_step rfl (op_call_fr hS cf_18 rfl (wfm_Model_c _ _ hS.hold EAtom.mono _ _ atoms (rs.filter (keepB keep (headsB atoms.length rs))) (h1.mono EAtom.mono hle) (hRk.mono ERule.mono hlr) hPk)) ?_
        clear hS
        rintro v75 w ⟨F75, G75, hR75, hF75, hf75, hl75, hS⟩
        obtain ⟨oM, cM, rfl, _, _⟩ := hR75.elimN (modelI_len _ _)
        have hle := hle.trans hl75
        have hlr := hlr.trans hl75
        replace hR75 := hR75.mono EInt.mono hf75
        -- r17.2 t12 := assign  t75
        refine ol_pure rfl (op_assign rfl) ?_
        refine ol_nil ?_
        refine pq_then ?_
        refine cw_seq ?_
        refine cw_region ?_
        -- r18.0 t77 := load [25] t11
        refine ol_load rfl (op_loadN agg_25 rfl (by rfl) (fun w hw k u hk => (hw.bcell (i := 0) rfl).trans hk)) hS ?_
        -- r18.1 t78 := move  t12
        refine ol_pure rfl (op_move rfl) ?_
        -- r18.2 t79 := call f24 t77 t78
        refine ol_step rfl (op_call_fr hS cf_24 rfl (L17_sides_c _ _ hS.hold _ _ atoms (rs.filter (keepB keep (headsB atoms.length rs))) (h1.mono EAtom.mono hle) (hRk.mono ERule.mono hlr) hPk _ _ hR75)) ?_
        clear hS
        rintro v79 w ⟨F79, G79, hR79, hF79, hf79, hl79, hS⟩
        obtain ⟨vl, vh, rfl, hLo, hHi⟩ := hR79
        obtain ⟨oL, cL, rfl, _, _⟩ := hLo.elimN (setB_length _ _ _)
        obtain ⟨oH, cH, rfl, _, _⟩ := hHi.elimN (by simp [hiB, setB_length] : (hiB (modelI atoms.length (rs.filter (keepB keep (headsB atoms.length rs)))) atoms.length).length = atoms.length)
        replace hLo := hLo.mono EBool.mono hf79
        replace hHi := hHi.mono EBool.mono hf79
        have hle := hle.trans hl79
        have hlr := hlr.trans hl79
        -- r18.3 t76 := move  t79
        refine ol_pure rfl (op_move rfl) ?_
        -- r18.4 t80 := extract [0] t76
        refine ol_pure rfl (op_extract rfl rfl) ?_
        -- r18.5 t81 := extract [1] t76
        refine ol_pure rfl (op_extract rfl rfl) ?_
        -- r18.6 t13 := assign  t80
        refine ol_pure rfl (op_assign rfl) ?_
        -- r18.7 t14 := assign  t81
        refine ol_pure rfl (op_assign rfl) ?_
        refine ol_nil ?_
        refine pq_then ?_
        refine cw_seq ?_
        refine cw_region ?_
        -- r19.0 t82 := move  t12
        refine ol_pure rfl (op_move rfl) ?_
        -- r19.1 t83 := call len t82
        refine ol_pure rfl (op_len sl_27 rfl rfl) ?_
        -- r19.2 t84 := fieldAddr [25, 0] t2
        refine ol_pure rfl (op_fieldAddr fld_25_0 rfl) ?_
        -- r19.3 t85 := load [22] t84
        refine ol_load rfl (op_load1 one_22 rfl (fun w hw => (hw.bcell (i := 2) rfl).trans rfl)) hS ?_
        -- r19.4 t86 := call len t85
        refine ol_pure rfl (op_len sl_22 rfl rfl) ?_
        -- r19.5 t87 := eql t83 t86
        refine ol_pure rfl (op_eqlT rfl rfl rfl) ?_
        -- r19.6 t88 := move  t87
        refine ol_pure rfl (op_move rfl) ?_
        -- r19.7 t89 := move  t13 ?6=True
        refine ol_guard_pure rfl rfl rfl (op_move rfl) ?_
        -- r19.8 t90 := move  t14 ?6=True
        refine ol_guard_pure rfl rfl rfl (op_move rfl) ?_
        -- r19.9 t91 := call f14 t89 t90 ?6=True
        refine ol_guard_step rfl rfl rfl (op_call_sc hS cf_14 rfl (calls_t (by rw [pos1 hP keep]; simp) (R17_Bools_c _ _ hS.hold _ _ _ _ hLo hHi))) ?_
        clear hS
        rintro _ w ⟨rfl, hS⟩
        -- r19.10 t92 := pick  t88 t91 Cfalse
        refine ol_pure rfl (op_pick_t rfl rfl) ?_
        -- r19.11 t93 := move  t92
        refine ol_pure rfl (op_move rfl) ?_
        -- r19.12 t94 := move  t13 ?11=True
        refine ol_guard_pure rfl rfl rfl (op_move rfl) ?_
        -- r19.13 t95 := load [25] t11 ?11=True
        refine ol_guard_load rfl rfl rfl (op_loadN agg_25 rfl (by rfl) (fun w hw k u hk => (hw.bcell (i := 0) rfl).trans hk)) hS ?_
        -- r19.14 t96 := call f15 t95 C(slice (none Addr) 0 0) ?11=True
        refine ol_guard_step rfl rfl rfl (op_call_fr hS cf_15 rfl (wfm_Least_c _ _ hS.hold EAtom.mono _ _ atoms (rs.filter (keepB keep (headsB atoms.length rs))) (h1.mono EAtom.mono hle) (hRk.mono ERule.mono hlr) hPk _ [] (.nil _))) ?_
        clear hS
        rintro v96 w ⟨F96, G96, hR96, hF96, hf96, hl96, hS⟩
        replace hR96 := hR96.mono EBool.mono hf96
        replace hLo := hLo.mono EBool.mono hl96
        -- r19.15 t97 := call f14 t94 t96 ?11=True
        refine ol_guard_step rfl rfl rfl (op_call_sc hS cf_14 rfl (calls_t (by rw [pos2 hP keep]; simp) (R17_Bools_c _ _ hS.hold _ _ _ _ hLo hR96))) ?_
        clear hS
        rintro _ w ⟨rfl, hS⟩
        -- r19.16 t98 := pick  t93 t97 Cfalse
        refine ol_pure rfl (op_pick_t rfl rfl) ?_
        -- r19.17 t99 := move  t98
        refine ol_pure rfl (op_move rfl) ?_
        -- r19.18 t100 := move  t5 ?17=True
        refine ol_guard_pure rfl rfl rfl (op_move rfl) ?_
        -- r19.19 t101 := pick  t99 t100 Cfalse
        refine ol_pure rfl (op_pick_t rfl rfl) ?_
        -- r19.20 t4 := assign  t101
        refine ol_pure rfl (op_assign rfl) ?_
        refine ol_nil ?_
        refine pq_then ?_
        refine cw_ret ?_
        refine ret1 rfl rfl ?_
        -- ret2 h18f h28f h44f
        exact hS.sc_b rfl
end Go.Proofs.Ytegjmfcfjedfjaa.K
