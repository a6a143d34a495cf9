/-
  The court of layer judge: sets that are unfounded, rules that hold up, steps.
  No condition but the premises that each theorem names.
-/
import Derived.Test.YtbpmkidaoemebaaCourt
namespace Go.Proofs.Ytbpmkidaoemebaa.K
open Go Go.RowKit
set_option linter.unusedVariables false
set_option linter.unusedSimpArgs false

open Pl
theorem meetB_any (a U : List Int) {X : List Int} (h : ∀ x, x ∈ X ↔ x ∈ U) : a.any (fun x => decide (x ∈ X)) = meetB a U := by
  unfold meetB
  congr 1
  funext x
  simp [h x]

set_option maxRecDepth 100000 in

theorem judge_court_unfounded_1_c (G : GH) (w0 : World) (hG : Holds G w0) (b5 bm : Nat) (o : Obj) (X : List Int) (x : Int) (hb5 : gcell G ⟨b5, 0, none⟩ = some (.map (some bm))) (hm : G bm = some o) (hX : MapI o X) :
    Calls Try.prog 75 #[.int .i64 x, .pointer (some ⟨b5, 0, none⟩)] w0 (Sc w0 (.bool (decide (x ∈ X)))) := by
  refine enter Try.func75 rfl (N := 7) rfl (Nat.le_of_ble_eq_true rfl) ?_
  have hS := SS.init hG
  refine cw_seq ?_
  refine cw_region ?_
  -- r0.0 t3 := assign  Cfalse
  refine ol_pure rfl (op_assign rfl) ?_
  refine ol_nil ?_
  refine pq_then ?_
  refine cw_seq ?_
  refine cw_region ?_
  -- r1.0 t4 := load [79] t1
  refine ol_load rfl (op_load1 one_79 rfl (fun w hw => hw.gcell hb5)) hS ?_
  -- r1.1 t5 := move  t0
  refine ol_pure rfl (op_move rfl) ?_
  -- r1.2 t6 := lookup [79] t4 t5
  refine ol_load rfl (op_lookup map_79 hX rfl rfl (fun w hw => hw.hold _ _ hm)) hS ?_
  -- r1.3 t3 := assign  t6
  refine ol_pure rfl (op_assign rfl) ?_
  refine ol_nil ?_
  refine pq_then ?_
  refine cw_ret ?_
  refine ret1 rfl rfl ?_
  -- ret1 
  exact hS.sc_b rfl
set_option maxRecDepth 100000 in

theorem judge_court_held_1_c (G : GH) (w0 : World) (hG : Holds G w0) (b : Nat) (vA vR vT : Value) (m : List Int) (hc : CoR G b vA vR vT) (hTo : RSl 1 EInt G vT m) (b1 b2 bm : Nat) (o : Obj) (X : List Int) (x : Int) (hb1 : gcell G ⟨b1, 0, none⟩ = some (.pointer (some ⟨b, 0, none⟩))) (hb2 : gcell G ⟨b2, 0, none⟩ = some (.map (some bm))) (hm : G bm = some o) (hX : MapI o X) (hx : 0 ≤ x ∧ x < m.length) :
    Calls Try.prog 51 #[.int .i64 x, .pointer (some ⟨b1, 0, none⟩), .pointer (some ⟨b2, 0, none⟩)] w0 (Sc w0 (.bool (!decide (valI m x = 2) && !decide (x ∈ X)))) := by
  obtain ⟨oT, cT, rfl, hlT, hmT⟩ := hTo.elim
  have hTle := hTo.le
  obtain ⟨j, rfl⟩ := Int.eq_ofNat_of_zero_le hx.1
  have hj : j < m.length := by omega
  obtain ⟨hoT, hcT, _⟩ := hTo.int hj
  refine enter Try.func51 rfl (N := 19) rfl (Nat.le_of_ble_eq_true rfl) ?_
  have hS := SS.init hG
  refine cw_seq ?_
  refine cw_region ?_
  -- r0.0 t4 := assign  Cfalse
  refine ol_pure rfl (op_assign rfl) ?_
  refine ol_nil ?_
  refine pq_then ?_
  refine cw_seq ?_
  refine cw_region ?_
  -- r1.0 t5 := load [53] t1
  refine ol_load rfl (op_load1 one_53 rfl (fun w hw => hw.gcell hb1)) hS ?_
  -- r1.1 t6 := nilCheck  t5
  refine ol_pure rfl (op_nilCheck rfl) ?_
  -- r1.2 t7 := fieldAddr [56, 1] t6
  refine ol_pure rfl (op_fieldAddr fld_56_1 rfl) ?_
  -- r1.3 t8 := load [29] t7
  refine ol_load rfl (op_load1 one_29 rfl (fun w hw => hw.gcell hc.c2)) hS ?_
  -- r1.4 t9 := move  t0
  refine ol_pure rfl (op_move rfl) ?_
  -- r1.5 t10 := indexAddr [29] t8 t9
  refine ol_pure rfl (op_indexN sl_29 rfl rfl (by omega) (by assumption)) ?_
  -- r1.6 t11 := load [3] t10
  refine ol_load rfl (op_load1 one_3 rfl (fun w hw => hw.gcell hcT)) hS ?_
  -- r1.7 t12 := neq t11 C2
  refine ol_pure rfl (op_neq rfl rfl) ?_
  -- r1.8 t13 := move  t12
  refine ol_pure rfl (op_move rfl) ?_
  refine ol_split (fun h13 => ?_) (fun h13 => ?_)
  · skip
    try simp only [decide_eq_true_eq, decide_eq_false_iff_not, Bool.not_eq_true', Bool.not_eq_false', Bool.not_eq_eq_eq_not, Bool.not_true, Bool.not_false] at h13
    -- r1.9 t14 := load [79] t2 ?8=True
    refine ol_guard_load rfl rfl rfl (op_load1 one_79 rfl (fun w hw => hw.gcell hb2)) hS ?_
    -- r1.10 t15 := move  t0 ?8=True
    refine ol_guard_pure rfl rfl rfl (op_move rfl) ?_
    -- r1.11 t16 := lookup [79] t14 t15 ?8=True
    refine ol_guard_load rfl rfl rfl (op_lookup map_79 hX rfl rfl (fun w hw => hw.hold _ _ hm)) hS ?_
    -- r1.12 t17 := not t16 ?8=True
    refine ol_guard_pure rfl rfl rfl (op_not rfl) ?_
    -- r1.13 t18 := pick  t13 t17 Cfalse
    refine ol_pure rfl (op_pick_t rfl rfl) ?_
    -- r1.14 t4 := assign  t18
    refine ol_pure rfl (op_assign rfl) ?_
    refine ol_nil ?_
    refine pq_then ?_
    refine cw_ret ?_
    refine ret1 rfl rfl ?_
    -- ret1 h13t
    exact hS.sc_b (by rw [val_at hj]; simp_all)
  · skip
    try simp only [decide_eq_true_eq, decide_eq_false_iff_not, Bool.not_eq_true', Bool.not_eq_false', Bool.not_eq_eq_eq_not, Bool.not_true, Bool.not_false] at h13
    refine ol_guard_no rfl rfl rfl rfl ?_
    refine ol_guard_no rfl rfl rfl rfl ?_
    refine ol_guard_no rfl rfl rfl rfl ?_
    refine ol_guard_no rfl rfl rfl rfl ?_
    -- r1.13 t18 := pick  t13 t17 Cfalse
    refine ol_pure rfl (op_pick_f rfl rfl) ?_
    -- r1.14 t4 := assign  t18
    refine ol_pure rfl (op_assign rfl) ?_
    refine ol_nil ?_
    refine pq_then ?_
    refine cw_ret ?_
    refine ret1 rfl rfl ?_
    -- ret1 h13f
    exact hS.sc_b (by rw [val_at hj]; simp_all)
set_option maxRecDepth 100000 in
set_option maxHeartbeats 1000000 in

theorem judge_court_unfounded_c (G : GH) (w0 : World) (hG : Holds G w0) (b : Nat) (vA vR vT : Value) (m : List Int) (hc : CoR G b vA vR vT) (hTo : RSl 1 EInt G vT m) (rs : List Rule) (hR : RSl 3 ERule G vR rs) (hok : ∀ r ∈ rs, RuleOk m.length r) (v : Value) (l : List Int) (h1 : RSl 1 EInt G v l) :
    Calls Try.prog 69 #[.pointer (some ⟨b, 0, none⟩), v] w0 (Sc w0 (.bool (unfOk rs m l))) := by
  obtain ⟨oa, c, rfl, hlc, hcm⟩ := h1.elim
  have hle := h1.le
  obtain ⟨oR, cR, rfl, hlR, hmR⟩ := hR.elim
  have hRle := hR.le
  refine enter Try.func69 rfl (N := 50) rfl (Nat.le_of_ble_eq_true rfl) ?_
  have hS := SS.init hG
  refine cw_seq ?_
  refine cw_region ?_
  -- r0.0 t4 := assign  Cfalse
  refine ol_pure rfl (op_assign rfl) ?_
  refine ol_nil ?_
  refine pq_then ?_
  refine cw_seq ?_
  refine cw_region ?_
  -- r1.0 t11 := makeMap [79] 
  refine ol_step rfl (op_makeMap hS) ?_
  clear hS
  rintro _ w ⟨bm, o_bm, rfl, hm_bm, hS⟩
  -- r1.1 t5 := alloc [79] 
  refine ol_step rfl (op_alloc hS el_79 rfl) ?_
  clear hS
  rintro _ w ⟨b5, rfl, hS⟩
  -- r1.2 _ := store [79] t5 t11
  refine ol_step0  (op_storeB0 (j := 0) hS sz_79 rfl rfl rfl rfl) ?_
  clear hS
  rintro _ w hS; (try simp only [List.nil_append, List.cons_append, List.set] at hS)
  refine ol_nil ?_
  refine pq_then ?_
  refine cw_seq ?_
  refine cw_seq ?_
  refine cw_region ?_
  -- r2.0 t12 := move  t1
  refine ol_pure rfl (op_move rfl) ?_
  -- r2.1 t13 := call len t12
  refine ol_pure rfl (op_len sl_29 rfl rfl) ?_
  -- r2.2 t14 := move  C0
  refine ol_pure rfl (op_move rfl) ?_
  refine ol_nil ?_
  refine pq_then ?_
  refine cw_block ?_
  refine cw_loop (fun e w n => ∃ k o X, e = [(0, .pointer (some ⟨b, 0, none⟩)), (5, .pointer (some ⟨b5, 0, none⟩)), (12, .slice oa l.length c), (13, .int .i64 (l.length : Nat)), (14, .int .i64 (k : Nat))] ∧ k ≤ l.length ∧ n = l.length - k ∧ MapI o X ∧ (∀ x, x ∈ X ↔ x ∈ l.take k) ∧ SS G w0 G [.blk b5 79 [.map (some bm)], .obj bm o] w) _ _ (by exact ⟨0, o_bm, [], rfl, Nat.zero_le _, rfl, hm_bm, (fun x => by simp), hS⟩) ((Sub.cons rfl (Sub.cons rfl (Sub.cons rfl (Sub.cons rfl (Sub.cons rfl Sub.nil)))))) ?_
  clear hS
  rintro e w n ⟨k, o, X, rfl, hk, rfl, hX, hXm, hS⟩
  refine cw_seq ?_
  refine cw_region ?_
  -- r3.0 t15 := lss t14 t13
  refine ol_pure rfl (op_lss rfl rfl) ?_
  refine ol_nil ?_
  refine pq_then ?_
  refine cw_seq ?_
  refine cw_cond rfl (fun h15 => ?_) (fun h15 => ?_)
  · skip
    try simp only [decide_eq_true_eq, decide_eq_false_iff_not, Bool.not_eq_true', Bool.not_eq_false', Bool.not_eq_eq_eq_not, Bool.not_true, Bool.not_false] at h15
    have hlt : k < l.length := by omega
    obtain ⟨hoa, hcl, hb⟩ := h1.int hlt
    refine cw_skip ?_
    refine pq_then ?_
    refine cw_seq ?_
    refine cw_block ?_
    refine cw_seq ?_
    refine cw_region ?_
    -- r4.0 t16 := indexAddr [29] t12 t14
    refine ol_pure rfl (op_indexN sl_29 rfl rfl (by omega) (by assumption)) ?_
    -- r4.1 t17 := load [3] t16
    refine ol_load rfl (op_load1 one_3 rfl (fun w hw => by first | exact hw.gcell (by assumption) | exact hw.gcell0 (by assumption))) hS ?_
    -- r4.2 t7 := assign  t17
    refine ol_pure rfl (op_assign rfl) ?_
    refine ol_nil ?_
    refine pq_then ?_
    refine cw_region ?_
    -- r5.0 t18 := load [79] t5
    refine ol_load rfl (op_load1 one_79 rfl (fun w hw => (hw.bcell0 (i := 0) rfl).trans rfl)) hS ?_
    -- r5.1 t19 := move  t7
    refine ol_pure rfl (op_move rfl) ?_
    -- r5.2 _ := mapUpdate [79] t18 t19 Ctrue
    refine ol_step0  (op_mapUpdate (j := 1) hS map_79 hX rfl rfl rfl rfl) ?_
    clear hS
    rintro _ w ⟨o_bm, hm_bm, hS⟩; (try simp only [List.nil_append, List.cons_append, List.set] at hS)
    refine ol_nil ?_
    refine pq_in_normal ?_
    refine pq_then ?_
    refine cw_region ?_
    -- r6.0 t20 := add t14 C1
    refine ol_pure rfl (op_add rfl rfl (by omega) (by omega)) ?_
    -- r6.1 t14 := move  t20
    refine ol_pure rfl (op_move rfl) ?_
    refine ol_nil ?_
    -- end of round 1 h15t
    refine pq_loop _ _ (by exact ⟨k + 1, o_bm, _, rfl, by omega, rfl, hm_bm, (fun x => by rw [Pl.mem_add hlt hXm]), hS⟩) ((Sub.cons rfl (Sub.cons rfl (Sub.cons rfl (Sub.cons rfl (Sub.cons rfl Sub.nil)))))) (by omega)
  · skip
    try simp only [decide_eq_true_eq, decide_eq_false_iff_not, Bool.not_eq_true', Bool.not_eq_false', Bool.not_eq_eq_eq_not, Bool.not_true, Bool.not_false] at h15
    have hXl : ∀ x, x ∈ X ↔ x ∈ l := fun x => by rw [hXm x, List.take_of_length_le (by omega)]
    clear hXm hk h15
    refine cw_exit ?_
    refine pq_exit ?_
    refine pq_exit ?_
    refine pq_in_exit ?_
    refine pq_then ?_
    refine cw_seq ?_
    refine cw_seq ?_
    refine cw_region ?_
    -- r7.0 t21 := move  t0
    refine ol_pure rfl (op_move rfl) ?_
    -- r7.1 t22 := nilCheck  t21
    refine ol_pure rfl (op_nilCheck rfl) ?_
    -- r7.2 t23 := fieldAddr [56, 0] t22
    refine ol_pure rfl (op_fieldAddr fld_56_0 rfl) ?_
    -- r7.3 t24 := fieldAddr [25, 1] t23
    refine ol_pure rfl (op_fieldAddr fld_25_1 rfl) ?_
    -- r7.4 t25 := load [23] t24
    refine ol_load rfl (op_load1 one_23 rfl (fun w hw => hw.gcell hc.c1)) hS ?_
    -- r7.5 t26 := call len t25
    refine ol_pure rfl (op_len sl_23 rfl rfl) ?_
    -- r7.6 t27 := move  C0
    refine ol_pure rfl (op_move rfl) ?_
    refine ol_nil ?_
    refine pq_then ?_
    refine cw_block ?_
    refine cw_loop (fun e w n => ∃ k : Nat, e = [(0, .pointer (some ⟨b, 0, none⟩)), (5, .pointer (some ⟨b5, 0, none⟩)), (25, .slice oR rs.length cR), (26, .int .i64 (rs.length : Nat)), (27, .int .i64 (k : Nat))] ∧ k ≤ rs.length ∧ n = rs.length - k ∧ (rs.take k).all (fun r => !looseB m l r) = true ∧ SS G w0 G [.blk b5 79 [.map (some bm)], .obj bm o] w) _ _ (by exact ⟨0, rfl, Nat.zero_le _, rfl, rfl, hS⟩) ((Sub.cons rfl (Sub.cons rfl (Sub.cons rfl (Sub.cons rfl (Sub.cons rfl Sub.nil)))))) ?_
    clear hS
    rintro e w n ⟨k, rfl, hk, rfl, hp0, hS⟩
    refine cw_seq ?_
    refine cw_region ?_
    -- r8.0 t28 := lss t27 t26
    refine ol_pure rfl (op_lss rfl rfl) ?_
    refine ol_nil ?_
    refine pq_then ?_
    refine cw_seq ?_
    refine cw_cond rfl (fun h28 => ?_) (fun h28 => ?_)
    · skip
      try simp only [decide_eq_true_eq, decide_eq_false_iff_not, Bool.not_eq_true', Bool.not_eq_false', Bool.not_eq_eq_eq_not, Bool.not_true, Bool.not_false] at h28
      have hlt : k < rs.length := by omega
      have hrk := hok _ (List.getElem_mem hlt)
      obtain ⟨hoa, cs, hcl, ⟨p, q, rfl, hp, hq, hhd⟩, hcells⟩ := hR.el hlt
      obtain ⟨op, cp, hpe, hlp, hmp⟩ := hp.elim
      obtain ⟨oq, cq, hqe, hlq, hmq⟩ := hq.elim
      subst hpe
      subst hqe
      refine cw_skip ?_
      refine pq_then ?_
      refine cw_seq ?_
      refine cw_block ?_
      refine cw_seq ?_
      refine cw_region ?_
      -- r9.0 t29 := indexAddr [23] t25 t27
      refine ol_pure rfl (op_indexN sl_23 rfl rfl (by omega) (by assumption)) ?_
      -- r9.1 t30 := load [48] t29
      refine ol_load rfl (op_loadN agg_48 rfl (by rfl) (fun w hw k u hk => hw.gcell0 (hcells k u hk))) hS ?_
      -- r9.2 t9 := alloc [48] 
      refine ol_step rfl (op_alloc hS el_48 rfl) ?_
      clear hS
      rintro _ w ⟨b9, rfl, hS⟩
      -- r9.3 _ := store [48] t9 t30
      refine ol_step0  (op_storeN (j := 0) hS sz_48 rfl rfl rfl rfl rfl (by simp [Value.oneCell'])) ?_
      clear hS
      rintro _ w hS; (try simp only [List.nil_append, List.cons_append, List.set] at hS)
      refine ol_nil ?_
      refine pq_then ?_
      refine cw_seq ?_
      refine cw_region ?_
      -- r10.0 t31 := makeFunc (func 75) |t5
      refine ol_pure rfl (op_makeFunc rfl rfl) ?_
      -- r10.1 t10 := assign  t31
      refine ol_pure rfl (op_assign rfl) ?_
      refine ol_nil ?_
      refine pq_then ?_
      refine cw_seq ?_
      refine cw_region ?_
      -- r11.0 t32 := load [79] t5
      refine ol_load rfl (op_load1 one_79 rfl (fun w hw => (hw.bcell0 (i := 1) rfl).trans rfl)) hS ?_
      -- r11.1 t33 := fieldAddr [48, 0] t9
      refine ol_pure rfl (op_fieldAddr fld_48_0 rfl) ?_
      -- r11.2 t34 := load [3] t33
      refine ol_load rfl (op_load1 one_3 rfl (fun w hw => (hw.bcell (i := 0) rfl).trans rfl)) hS ?_
      -- r11.3 t35 := lookup [79] t32 t34
      refine ol_load rfl (op_lookup map_79 hX rfl rfl (fun w hw => hw.own (.obj bm o) (by simp))) hS ?_
      -- r11.4 t36 := move  t35
      refine ol_pure rfl (op_move rfl) ?_
      refine ol_split (fun h36 => ?_) (fun h36 => ?_)
      · skip
        try simp only [decide_eq_true_eq, decide_eq_false_iff_not, Bool.not_eq_true', Bool.not_eq_false', Bool.not_eq_eq_eq_not, Bool.not_true, Bool.not_false] at h36
        -- r11.5 t37 := move  t0 ?4=True
        refine ol_guard_pure rfl rfl rfl (op_move rfl) ?_
        -- r11.6 t38 := load [48] t9 ?4=True
        refine ol_guard_load rfl rfl rfl (op_loadN agg_48 rfl (by rfl) (fun w hw k u hk => (hw.bcell (i := 0) rfl).trans hk)) hS ?_
        -- r11.7 t39 := call f52 t37 t38 ?4=True
        refine ol_guard_step rfl rfl rfl (op_call_sc hS cf_52 rfl (judge_court_blocked_c G _ hS.hold b vA _ vT m hc hTo rs[k] _ _ hp hq hrk)) ?_
        clear hS
        rintro _ w ⟨rfl, hS⟩
        -- r11.8 t40 := not t39 ?4=True
        refine ol_guard_pure rfl rfl rfl (op_not rfl) ?_
        -- r11.9 t41 := pick  t36 t40 Cfalse
        refine ol_pure rfl (op_pick_t rfl rfl) ?_
        -- r11.10 t42 := move  t41
        refine ol_pure rfl (op_move rfl) ?_
        refine ol_split (fun h42 => ?_) (fun h42 => ?_)
        · skip
          try simp only [decide_eq_true_eq, decide_eq_false_iff_not, Bool.not_eq_true', Bool.not_eq_false', Bool.not_eq_eq_eq_not, Bool.not_true, Bool.not_false] at h42
          -- r11.11 t43 := fieldAddr [48, 1] t9 ?10=True
          refine ol_guard_pure rfl rfl rfl (op_fieldAddr fld_48_1 rfl) ?_
          -- r11.12 t44 := load [29] t43 ?10=True
          refine ol_guard_load rfl rfl rfl (op_load1 one_29 rfl (fun w hw => (hw.bcell (i := 0) rfl).trans rfl)) hS ?_
          -- r11.13 t45 := move  t10 ?10=True
          refine ol_guard_pure rfl rfl rfl (op_move rfl) ?_
          -- r11.14 t46 := call f53 t44 t45 ?10=True
          refine ol_guard_step rfl rfl rfl (op_call_sc hS cf_53 rfl (slices_ContainsFunc_c (fullG _) _ (Holds.full _) _ rs[k].pos (hp.mono EInt.mono hS.hold.le_full) (fun x => decide (x ∈ X)) 75 [.pointer (some ⟨b5, 0, none⟩)] cf_75 (fun w' hB x hx => judge_court_unfounded_1_c (fullG _) w' ((Holds.full _).below hB) b5 bm o X x (hS.bcell0 (i := 1) rfl) (hS.own (.obj bm o) (by simp)) hX))) ?_
          clear hS
          rintro _ w ⟨rfl, hS⟩
          -- r11.15 t47 := not t46 ?10=True
          refine ol_guard_pure rfl rfl rfl (op_not rfl) ?_
          -- r11.16 t48 := pick  t42 t47 Cfalse
          refine ol_pure rfl (op_pick_t rfl rfl) ?_
          refine ol_nil ?_
          refine pq_then ?_
          refine cw_cond rfl (fun h48 => ?_) (fun h48 => ?_)
          · skip
            try simp only [decide_eq_true_eq, decide_eq_false_iff_not, Bool.not_eq_true', Bool.not_eq_false', Bool.not_eq_eq_eq_not, Bool.not_true, Bool.not_false] at h48
            refine cw_seq ?_
            refine cw_region ?_
            -- r12.0 t4 := assign  Cfalse
            refine ol_pure rfl (op_assign rfl) ?_
            refine ol_nil ?_
            refine pq_then ?_
            refine cw_ret ?_
            refine pq_in_ret ?_
            refine pq_ret ?_
            refine pq_ret ?_
            refine pq_in_ret ?_
            refine pq_ret ?_
            refine ret1 rfl rfl ?_
            -- ret1 h15f h28t h36t h42t h48t
            have hl : looseB m l rs[k] = (decide (rs[k].head ∈ X) && !(hasB m rs[k].pos 0 || hasB m rs[k].neg 2) && !(rs[k].pos.any fun x => decide (x ∈ X))) := by rw [looseB, meetB_any rs[k].pos l hXl, decide_eq_decide.2 (hXl _)]
            exact hS.sc_b (by rw [unfOk, Pl.all_false_at (fun r => !looseB m l r) _ _ hlt (by rw [hl]; simp_all)])
          · skip
            try simp only [decide_eq_true_eq, decide_eq_false_iff_not, Bool.not_eq_true', Bool.not_eq_false', Bool.not_eq_eq_eq_not, Bool.not_true, Bool.not_false] at h48
            refine cw_skip ?_
            refine pq_in_normal ?_
            refine pq_then ?_
            refine cw_region ?_
            -- r13.0 t49 := add t27 C1
            refine ol_pure rfl (op_add rfl rfl (by omega) (by omega)) ?_
            -- r13.1 t27 := move  t49
            refine ol_pure rfl (op_move rfl) ?_
            refine ol_nil ?_
            -- end of round 2 h15f h28t h36t h42t h48f
            refine pq_loop _ _ (by exact (by
                have hl : looseB m l rs[k] = (decide (rs[k].head ∈ X) && !(hasB m rs[k].pos 0 || hasB m rs[k].neg 2) && !(rs[k].pos.any fun x => decide (x ∈ X))) := by rw [looseB, meetB_any rs[k].pos l hXl, decide_eq_decide.2 (hXl _)]
                replace hS := SS.drop [] hS
                exact ⟨k + 1, rfl, by omega, rfl, by rw [Pl.all_take_succ (fun r => !looseB m l r) _ _ hlt, hp0, hl]; simp_all, hS⟩)) ((Sub.cons rfl (Sub.cons rfl (Sub.cons rfl (Sub.cons rfl (Sub.cons rfl Sub.nil)))))) (by omega)
        · skip
          try simp only [decide_eq_true_eq, decide_eq_false_iff_not, Bool.not_eq_true', Bool.not_eq_false', Bool.not_eq_eq_eq_not, Bool.not_true, Bool.not_false] at h42
          refine ol_guard_no rfl rfl rfl rfl ?_
          refine ol_guard_no rfl rfl rfl rfl ?_
          refine ol_guard_no rfl rfl rfl rfl ?_
          refine ol_guard_no rfl rfl rfl rfl ?_
          refine ol_guard_no rfl rfl rfl rfl ?_
          -- r11.16 t48 := pick  t42 t47 Cfalse
          refine ol_pure rfl (op_pick_f rfl rfl) ?_
          refine ol_nil ?_
          refine pq_then ?_
          refine cw_cond_f rfl ?_
          refine cw_skip ?_
          refine pq_in_normal ?_
          refine pq_then ?_
          refine cw_region ?_
          -- r13.0 t49 := add t27 C1
          refine ol_pure rfl (op_add rfl rfl (by omega) (by omega)) ?_
          -- r13.1 t27 := move  t49
          refine ol_pure rfl (op_move rfl) ?_
          refine ol_nil ?_
          -- end of round 2 h15f h28t h36t h42f
          refine pq_loop _ _ (by exact (by
              have hl : looseB m l rs[k] = (decide (rs[k].head ∈ X) && !(hasB m rs[k].pos 0 || hasB m rs[k].neg 2) && !(rs[k].pos.any fun x => decide (x ∈ X))) := by rw [looseB, meetB_any rs[k].pos l hXl, decide_eq_decide.2 (hXl _)]
              replace hS := SS.drop [] hS
              exact ⟨k + 1, rfl, by omega, rfl, by rw [Pl.all_take_succ (fun r => !looseB m l r) _ _ hlt, hp0, hl]; simp_all, hS⟩)) ((Sub.cons rfl (Sub.cons rfl (Sub.cons rfl (Sub.cons rfl (Sub.cons rfl Sub.nil)))))) (by omega)
      · skip
        try simp only [decide_eq_true_eq, decide_eq_false_iff_not, Bool.not_eq_true', Bool.not_eq_false', Bool.not_eq_eq_eq_not, Bool.not_true, Bool.not_false] at h36
        refine ol_guard_no rfl rfl rfl rfl ?_
        refine ol_guard_no rfl rfl rfl rfl ?_
        refine ol_guard_no rfl rfl rfl rfl ?_
        refine ol_guard_no rfl rfl rfl rfl ?_
        -- r11.9 t41 := pick  t36 t40 Cfalse
        refine ol_pure rfl (op_pick_f rfl rfl) ?_
        -- r11.10 t42 := move  t41
        refine ol_pure rfl (op_move rfl) ?_
        refine ol_guard_no rfl rfl rfl rfl ?_
        refine ol_guard_no rfl rfl rfl rfl ?_
        refine ol_guard_no rfl rfl rfl rfl ?_
        refine ol_guard_no rfl rfl rfl rfl ?_
        refine ol_guard_no rfl rfl rfl rfl ?_
        -- r11.16 t48 := pick  t42 t47 Cfalse
        refine ol_pure rfl (op_pick_f rfl rfl) ?_
        refine ol_nil ?_
        refine pq_then ?_
        refine cw_cond_f rfl ?_
        refine cw_skip ?_
        refine pq_in_normal ?_
        refine pq_then ?_
        refine cw_region ?_
        -- r13.0 t49 := add t27 C1
        refine ol_pure rfl (op_add rfl rfl (by omega) (by omega)) ?_
        -- r13.1 t27 := move  t49
        refine ol_pure rfl (op_move rfl) ?_
        refine ol_nil ?_
        -- end of round 2 h15f h28t h36f
        refine pq_loop _ _ (by exact (by
            have hl : looseB m l rs[k] = (decide (rs[k].head ∈ X) && !(hasB m rs[k].pos 0 || hasB m rs[k].neg 2) && !(rs[k].pos.any fun x => decide (x ∈ X))) := by rw [looseB, meetB_any rs[k].pos l hXl, decide_eq_decide.2 (hXl _)]
            replace hS := SS.drop [] hS
            exact ⟨k + 1, rfl, by omega, rfl, by rw [Pl.all_take_succ (fun r => !looseB m l r) _ _ hlt, hp0, hl]; simp_all, hS⟩)) ((Sub.cons rfl (Sub.cons rfl (Sub.cons rfl (Sub.cons rfl (Sub.cons rfl Sub.nil)))))) (by omega)
    · skip
      try simp only [decide_eq_true_eq, decide_eq_false_iff_not, Bool.not_eq_true', Bool.not_eq_false', Bool.not_eq_eq_eq_not, Bool.not_true, Bool.not_false] at h28
      refine cw_exit ?_
      refine pq_exit ?_
      refine pq_exit ?_
      refine pq_in_exit ?_
      refine pq_then ?_
      refine cw_seq ?_
      refine cw_region ?_
      -- r14.0 t4 := assign  Ctrue
      refine ol_pure rfl (op_assign rfl) ?_
      refine ol_nil ?_
      refine pq_then ?_
      refine cw_ret ?_
      refine ret1 rfl rfl ?_
      -- ret2 h15f h28f
      exact hS.sc_b (by rw [unfOk, Pl.all_of_take (fun r => !looseB m l r) _ _ (by omega) hp0])
set_option maxRecDepth 100000 in
set_option maxHeartbeats 2000000 in

theorem judge_court_held_c (G : GH) (w0 : World) (hG : Holds G w0) (b : Nat) (vA vR vT : Value) (m : List Int) (hc : CoR G b vA vR vT) (hTo : RSl 1 EInt G vT m) (rs : List Rule) (hR : RSl 3 ERule G vR rs) (hok : ∀ r ∈ rs, RuleOk m.length r) (v : Value) (l : List Int) (h1 : RSl 1 EInt G v l) :
    Calls Try.prog 31 #[.pointer (some ⟨b, 0, none⟩), v] w0 (Sc w0 (.bool (heldB rs m l))) := by
  obtain ⟨oL, cL, rfl, hlc, hcm⟩ := h1.elim
  have hle := h1.le
  obtain ⟨oR, cR, rfl, hlR, hmR⟩ := hR.elim
  have hRle := hR.le
  obtain ⟨oT, cT, rfl, hlT, hmT⟩ := hTo.elim
  have hTle := hTo.le
  refine enter Try.func31 rfl (N := 89) rfl (Nat.le_of_ble_eq_true rfl) ?_
  have hS := SS.init hG
  refine cw_seq ?_
  refine cw_region ?_
  -- r0.0 t2 := box [53] t0
  refine ol_step rfl (op_box hS rfl rfl) ?_
  clear hS
  rintro _ w ⟨b2, rfl, hS⟩
  -- r0.1 t4 := assign  Cfalse
  refine ol_pure rfl (op_assign rfl) ?_
  refine ol_nil ?_
  refine pq_then ?_
  refine cw_seq ?_
  refine cw_region ?_
  -- r1.0 t12 := makeMap [79] 
  refine ol_step rfl (op_makeMap hS) ?_
  clear hS
  rintro _ w ⟨bm, o_bm, rfl, hm_bm, hS⟩
  -- r1.1 t5 := alloc [79] 
  refine ol_step rfl (op_alloc hS el_79 rfl) ?_
  clear hS
  rintro _ w ⟨b5, rfl, hS⟩
  -- r1.2 _ := store [79] t5 t12
  refine ol_step0  (op_storeB0 (j := 0) hS sz_79 rfl rfl rfl rfl) ?_
  clear hS
  rintro _ w hS; (try simp only [List.nil_append, List.cons_append, List.set] at hS)
  refine ol_nil ?_
  refine pq_then ?_
  refine cw_seq ?_
  refine cw_seq ?_
  refine cw_region ?_
  -- r2.0 t13 := move  t1
  refine ol_pure rfl (op_move rfl) ?_
  -- r2.1 t14 := call len t13
  refine ol_pure rfl (op_len sl_29 rfl rfl) ?_
  -- r2.2 t15 := move  C0
  refine ol_pure rfl (op_move rfl) ?_
  refine ol_nil ?_
  refine pq_then ?_
  refine cw_block ?_
  refine cw_loop (fun e w n => ∃ i o X heads, e = [(2, .pointer (some ⟨b2, 0, none⟩)), (5, .pointer (some ⟨b5, 0, none⟩)), (13, .slice oL l.length cL), (14, .int .i64 (l.length : Nat)), (15, .int .i64 (i : Nat))] ∧ i ≤ l.length ∧ n = l.length - i ∧ MapI o X ∧ (∀ x, x ∈ X ↔ x ∈ heads) ∧ heldL rs m [] l = heldL rs m heads (l.drop i) ∧ SS G w0 G [.blk b5 79 [.map (some bm)], .obj bm o, .blk b2 53 [.pointer (some ⟨b, 0, none⟩)]] w) _ _ (by exact ⟨0, o_bm, [], [], rfl, Nat.zero_le _, rfl, hm_bm, (fun x => by simp), rfl, hS⟩) ((Sub.cons rfl (Sub.cons rfl (Sub.cons rfl (Sub.cons rfl (Sub.cons rfl Sub.nil)))))) ?_
  clear hS
  rintro e w n ⟨i, o, X, heads, rfl, hi, rfl, hX, hXm, hh, hS⟩
  refine cw_seq ?_
  refine cw_region ?_
  -- r3.0 t16 := lss t15 t14
  refine ol_pure rfl (op_lss rfl rfl) ?_
  refine ol_nil ?_
  refine pq_then ?_
  refine cw_seq ?_
  refine cw_cond rfl (fun h16 => ?_) (fun h16 => ?_)
  · skip
    try simp only [decide_eq_true_eq, decide_eq_false_iff_not, Bool.not_eq_true', Bool.not_eq_false', Bool.not_eq_eq_eq_not, Bool.not_true, Bool.not_false] at h16
    have hil : i < l.length := by omega
    obtain ⟨hoL, hcL, hbL⟩ := h1.int hil
    refine cw_skip ?_
    refine pq_then ?_
    refine cw_seq ?_
    refine cw_block ?_
    refine cw_seq ?_
    refine cw_region ?_
    -- r4.0 t17 := indexAddr [29] t13 t15
    refine ol_pure rfl (op_indexN sl_29 rfl rfl (by omega) (by assumption)) ?_
    -- r4.1 t18 := load [3] t17
    refine ol_load rfl (op_load1 one_3 rfl (fun w hw => by first | exact hw.gcell (by assumption) | exact hw.gcell0 (by assumption))) hS ?_
    -- r4.2 t7 := assign  t18
    refine ol_pure rfl (op_assign rfl) ?_
    refine ol_nil ?_
    refine pq_then ?_
    refine cw_seq ?_
    refine cw_seq ?_
    refine cw_region ?_
    -- r5.0 t19 := move  t7
    refine ol_pure rfl (op_move rfl) ?_
    -- r5.1 t20 := lss t19 C0
    refine ol_pure rfl (op_lss rfl rfl) ?_
    -- r5.2 t21 := move  t20
    refine ol_pure rfl (op_move rfl) ?_
    refine ol_split (fun h21 => ?_) (fun h21 => ?_)
    · skip
      try simp only [decide_eq_true_eq, decide_eq_false_iff_not, Bool.not_eq_true', Bool.not_eq_false', Bool.not_eq_eq_eq_not, Bool.not_true, Bool.not_false] at h21
      refine ol_guard_no rfl rfl rfl rfl ?_
      refine ol_guard_no rfl rfl rfl rfl ?_
      refine ol_guard_no rfl rfl rfl rfl ?_
      refine ol_guard_no rfl rfl rfl rfl ?_
      refine ol_guard_no rfl rfl rfl rfl ?_
      refine ol_guard_no rfl rfl rfl rfl ?_
      refine ol_guard_no rfl rfl rfl rfl ?_
      refine ol_guard_no rfl rfl rfl rfl ?_
      -- r5.11 t30 := pick  t21 Ctrue t29
      refine ol_pure rfl (op_pick_t rfl rfl) ?_
      refine ol_nil ?_
      refine pq_then ?_
      refine cw_cond_t rfl ?_
      refine cw_seq ?_
      refine cw_region ?_
      -- r6.0 t4 := assign  Cfalse
      refine ol_pure rfl (op_assign rfl) ?_
      refine ol_nil ?_
      refine pq_then ?_
      refine cw_ret ?_
      refine pq_ret ?_
      refine pq_in_ret ?_
      refine pq_ret ?_
      refine pq_ret ?_
      refine pq_in_ret ?_
      refine pq_ret ?_
      refine ret1 rfl rfl ?_
      -- ret1 h16t h21t
      exact hS.sc_b (by rw [heldB, hh, heldL_neg hil h21])
    · skip
      try simp only [decide_eq_true_eq, decide_eq_false_iff_not, Bool.not_eq_true', Bool.not_eq_false', Bool.not_eq_eq_eq_not, Bool.not_true, Bool.not_false] at h21
      -- r5.3 t22 := move  t7 ?2=False
      refine ol_guard_pure rfl rfl rfl (op_move rfl) ?_
      -- r5.4 t23 := load [53] t2 ?2=False
      refine ol_guard_load rfl rfl rfl (op_load1 one_53 rfl (fun w hw => (hw.bcell0 (i := 2) rfl).trans rfl)) hS ?_
      -- r5.5 t24 := nilCheck  t23 ?2=False
      refine ol_guard_pure rfl rfl rfl (op_nilCheck rfl) ?_
      -- r5.6 t25 := fieldAddr [56, 0] t24 ?2=False
      refine ol_guard_pure rfl rfl rfl (op_fieldAddr fld_56_0 rfl) ?_
      -- r5.7 t26 := fieldAddr [25, 1] t25 ?2=False
      refine ol_guard_pure rfl rfl rfl (op_fieldAddr fld_25_1 rfl) ?_
      -- r5.8 t27 := load [23] t26 ?2=False
      refine ol_guard_load rfl rfl rfl (op_load1 one_23 rfl (fun w hw => hw.gcell hc.c1)) hS ?_
      -- r5.9 t28 := call len t27 ?2=False
      refine ol_guard_pure rfl rfl rfl (op_len sl_23 rfl rfl) ?_
      -- r5.10 t29 := geq t22 t28 ?2=False
      refine ol_guard_pure rfl rfl rfl (op_geq rfl rfl) ?_
      -- r5.11 t30 := pick  t21 Ctrue t29
      refine ol_pure rfl (op_pick_f rfl rfl) ?_
      refine ol_nil ?_
      refine pq_then ?_
      refine cw_cond rfl (fun h30 => ?_) (fun h30 => ?_)
      · skip
        try simp only [decide_eq_true_eq, decide_eq_false_iff_not, Bool.not_eq_true', Bool.not_eq_false', Bool.not_eq_eq_eq_not, Bool.not_true, Bool.not_false] at h30
        refine cw_seq ?_
        refine cw_region ?_
        -- r6.0 t4 := assign  Cfalse
        refine ol_pure rfl (op_assign rfl) ?_
        refine ol_nil ?_
        refine pq_then ?_
        refine cw_ret ?_
        refine pq_ret ?_
        refine pq_in_ret ?_
        refine pq_ret ?_
        refine pq_ret ?_
        refine pq_in_ret ?_
        refine pq_ret ?_
        refine ret1 rfl rfl ?_
        -- ret1 h16t h21f h30t
        exact hS.sc_b (by rw [heldB, hh, heldL_big hil (by omega)])
      · skip
        try simp only [decide_eq_true_eq, decide_eq_false_iff_not, Bool.not_eq_true', Bool.not_eq_false', Bool.not_eq_eq_eq_not, Bool.not_true, Bool.not_false] at h30
        obtain ⟨k, hk⟩ := Int.eq_ofNat_of_zero_le (show 0 ≤ l[i] by omega)
        have hlt : k < rs.length := by omega
        have hrk := hok _ (List.getElem_mem hlt)
        obtain ⟨hoa, cs, hcl, ⟨p, q, rfl, hp, hq, hhd⟩, hcells⟩ := hR.el hlt
        obtain ⟨op, cp, hpe, hlp, hmp⟩ := hp.elim
        obtain ⟨oq, cq, hqe, hlq, hmq⟩ := hq.elim
        subst hpe
        subst hqe
        have hcells2 : ∀ (j : Nat) (u : Value), [Value.int .i64 rs[k].head, .slice op rs[k].pos.length cp, .slice oq rs[k].neg.length cq][j]? = some u → gcell G ((elA oR (l[i].toNat * 3)).add j) = some u := by rw [hk]; exact hcells
        obtain ⟨hd, hhe⟩ := Int.eq_ofNat_of_zero_le hrk.1.1
        have hhn : hd < m.length := by have := hrk.1.2; omega
        obtain ⟨hoT, hcT, _⟩ := hTo.int hhn
        have hvh : valI m rs[k].head = m[hd] := by rw [hhe]; exact val_at hhn
        refine cw_skip ?_
        refine pq_then ?_
        refine cw_seq ?_
        refine cw_region ?_
        -- r7.0 t31 := load [53] t2
        refine ol_load rfl (op_load1 one_53 rfl (fun w hw => (hw.bcell0 (i := 2) rfl).trans rfl)) hS ?_
        -- r7.1 t32 := nilCheck  t31
        refine ol_pure rfl (op_nilCheck rfl) ?_
        -- r7.2 t33 := fieldAddr [56, 0] t32
        refine ol_pure rfl (op_fieldAddr fld_56_0 rfl) ?_
        -- r7.3 t34 := fieldAddr [25, 1] t33
        refine ol_pure rfl (op_fieldAddr fld_25_1 rfl) ?_
        -- r7.4 t35 := load [23] t34
        refine ol_load rfl (op_load1 one_23 rfl (fun w hw => hw.gcell hc.c1)) hS ?_
        -- r7.5 t36 := move  t7
        refine ol_pure rfl (op_move rfl) ?_
        -- r7.6 t37 := indexAddr [23] t35 t36
        refine ol_pure rfl (op_indexAddr sl_23 rfl rfl (by omega) (by omega) hoa) ?_
        -- r7.7 t38 := load [48] t37
        refine ol_load rfl (op_loadN agg_48 rfl (by rfl) (fun w hw k u hk => hw.gcell (hcells2 k u hk))) hS ?_
        -- r7.8 t8 := alloc [48] 
        refine ol_step rfl (op_alloc hS el_48 rfl) ?_
        clear hS
        rintro _ w ⟨b8, rfl, hS⟩
        -- r7.9 _ := store [48] t8 t38
        refine ol_step0  (op_storeN (j := 0) hS sz_48 rfl rfl rfl rfl rfl (by simp [Value.oneCell'])) ?_
        clear hS
        rintro _ w hS; (try simp only [List.nil_append, List.cons_append, List.set] at hS)
        refine ol_nil ?_
        refine pq_then ?_
        refine cw_seq ?_
        refine cw_region ?_
        -- r8.0 t39 := makeFunc (func 51) |t2 t5
        refine ol_pure rfl (op_makeFunc rfl rfl) ?_
        -- r8.1 t9 := assign  t39
        refine ol_pure rfl (op_assign rfl) ?_
        refine ol_nil ?_
        refine pq_then ?_
        refine cw_seq ?_
        refine cw_seq ?_
        refine al_start' hS (hS.take 4) (by kernel_rfl) rfl (fun w hS hT => ?_)
        -- r9.0 t40 := load [53] t2
        refine al_load (i := 0) rfl (by kernel_rfl) (by kernel_rfl) (by kernel_rfl) rfl (fun _ _ _ h => h) (by exact op_load1 one_53 rfl (fun w hw => (hw.bcell0 (i := 3) rfl).trans rfl)) rfl hT ?_
        -- r9.1 t41 := nilCheck  t40
        refine al_take (i := 1) rfl (by kernel_rfl) (by kernel_rfl) (by kernel_rfl) rfl (fun _ _ _ h => h) (op_nilCheck rfl) rfl ?_
        -- r9.2 t42 := fieldAddr [56, 1] t41
        refine al_take (i := 2) rfl (by kernel_rfl) (by kernel_rfl) (by kernel_rfl) rfl (fun _ _ _ h => h) (op_fieldAddr fld_56_1 rfl) rfl ?_
        -- r9.3 t43 := load [29] t42
        refine al_load (i := 3) rfl (by kernel_rfl) (by kernel_rfl) (by kernel_rfl) rfl (fun _ _ _ h => h) (by exact op_load1 one_29 rfl (fun w hw => hw.gcell hc.c2)) rfl hT ?_
        -- r9.4 t44 := fieldAddr [48, 0] t8
        refine al_take (i := 4) rfl (by kernel_rfl) (by kernel_rfl) (by kernel_rfl) rfl (fun _ _ _ h => h) (op_fieldAddr fld_48_0 rfl) rfl ?_
        -- r9.5 t45 := load [3] t44
        refine al_load (i := 5) rfl (by kernel_rfl) (by kernel_rfl) (by kernel_rfl) rfl (fun _ _ _ h => h) (by exact op_load1 one_3 rfl (fun w hw => (hw.bcell (i := 0) rfl).trans rfl)) rfl hT ?_
        -- r9.6 t46 := indexAddr [29] t43 t45
        refine al_take (i := 6) rfl (by kernel_rfl) (by kernel_rfl) (by kernel_rfl) rfl (fun _ _ _ h => h) (op_indexAddr sl_29 rfl rfl (by omega) (by omega) hoT) rfl ?_
        -- r9.7 t47 := load [3] t46
        refine al_load (i := 7) rfl (by kernel_rfl) (by kernel_rfl) (by kernel_rfl) rfl (fun _ _ _ h => h) (by exact op_load1 one_3 rfl (fun w hw => hw.gcell (by rw [hhe]; exact hcT))) rfl hT ?_
        -- r9.8 t48 := neq t47 C1
        refine al_take (i := 8) rfl (by kernel_rfl) (by kernel_rfl) (by kernel_rfl) rfl (fun _ _ _ h => h) (op_neq rfl rfl) rfl ?_
        -- r9.9 t49 := move  t48
        refine al_take (i := 9) rfl (by kernel_rfl) (by kernel_rfl) (by kernel_rfl) rfl (fun _ _ _ h => h) (op_move rfl) rfl ?_
        refine al_split (fun h49 => ?_) (fun h49 => ?_)
        · skip
          try simp only [decide_eq_true_eq, decide_eq_false_iff_not, Bool.not_eq_true', Bool.not_eq_false', Bool.not_eq_eq_eq_not, Bool.not_true, Bool.not_false] at h49
          refine al_gskip (i := 10) rfl (by kernel_rfl) (by kernel_rfl) (by kernel_rfl) rfl rfl rfl rfl (fun _ _ _ h => h) (fun _ => hT) ?_
          refine al_gskip (i := 11) rfl (by kernel_rfl) (by kernel_rfl) (by kernel_rfl) rfl rfl rfl rfl (fun _ _ _ h => h) (fun _ => hT) ?_
          refine al_gskip (i := 12) rfl (by kernel_rfl) (by kernel_rfl) (by kernel_rfl) rfl rfl rfl rfl (fun _ _ _ h => h) (fun _ => hT) ?_
          refine al_gskip (i := 13) rfl (by kernel_rfl) (by kernel_rfl) (by kernel_rfl) rfl rfl rfl rfl (fun _ _ _ h => h) (fun _ => hT) ?_
          -- r9.14 t54 := pick  t49 Ctrue t53
          refine al_take (i := 14) rfl (by kernel_rfl) (by kernel_rfl) (by kernel_rfl) rfl (fun _ _ _ h => h) (op_pick_t rfl rfl) rfl ?_
          -- r9.15 t55 := move  t54
          refine al_take (i := 15) rfl (by kernel_rfl) (by kernel_rfl) (by kernel_rfl) rfl (fun _ _ _ h => h) (op_move rfl) rfl ?_
          refine al_gskip (i := 16) rfl (by kernel_rfl) (by kernel_rfl) (by kernel_rfl) rfl rfl rfl rfl (fun _ _ _ h => h) (fun _ => hT) ?_
          refine al_gskip (i := 17) rfl (by kernel_rfl) (by kernel_rfl) (by kernel_rfl) rfl rfl rfl rfl (fun _ _ _ h => h) (fun _ => hT) ?_
          refine al_gskip (i := 18) rfl (by kernel_rfl) (by kernel_rfl) (by kernel_rfl) rfl rfl rfl rfl (fun _ _ _ h => h) (fun _ => hT) ?_
          -- r9.19 t59 := pick  t55 Ctrue t58
          refine al_take (i := 19) rfl (by kernel_rfl) (by kernel_rfl) (by kernel_rfl) rfl (fun _ _ _ h => h) (op_pick_t rfl rfl) rfl ?_
          -- r9.20 t60 := move  t59
          refine al_take (i := 20) rfl (by kernel_rfl) (by kernel_rfl) (by kernel_rfl) rfl (fun _ _ _ h => h) (op_move rfl) rfl ?_
          refine al_gskip (i := 21) rfl (by kernel_rfl) (by kernel_rfl) (by kernel_rfl) rfl rfl rfl rfl (fun _ _ _ h => h) (fun _ => hT) ?_
          refine al_gskip (i := 22) rfl (by kernel_rfl) (by kernel_rfl) (by kernel_rfl) rfl rfl rfl rfl (fun _ _ _ h => h) (fun _ => hT) ?_
          refine al_gskip (i := 23) rfl (by kernel_rfl) (by kernel_rfl) (by kernel_rfl) rfl rfl rfl rfl (fun _ _ _ h => h) (fun _ => hT) ?_
          refine al_gskip (i := 24) rfl (by kernel_rfl) (by kernel_rfl) (by kernel_rfl) rfl rfl rfl rfl (fun _ _ _ h => h) (fun _ => hT) ?_
          -- r9.25 t65 := pick  t60 Ctrue t64
          refine al_take (i := 25) rfl (by kernel_rfl) (by kernel_rfl) (by kernel_rfl) rfl (fun _ _ _ h => h) (op_pick_t rfl rfl) rfl ?_
          refine al_done (by kernel_rfl) ?_
          refine pq_then ?_
          refine cw_cond_t rfl ?_
          refine cw_seq ?_
          refine cw_region ?_
          -- r10.0 t4 := assign  Cfalse
          refine ol_pure rfl (op_assign rfl) ?_
          refine ol_nil ?_
          refine pq_then ?_
          refine cw_ret ?_
          refine pq_ret ?_
          refine pq_in_ret ?_
          refine pq_ret ?_
          refine pq_ret ?_
          refine pq_in_ret ?_
          refine pq_ret ?_
          refine ret1 rfl rfl ?_
          -- ret2 h16t h21f h30f h49t
          have hsup : supB m heads rs[k] = false := by
            unfold supB
            rw [hvh]
            cases hp0 : hasB m rs[k].pos 0 <;> cases hq0 : hasB m rs[k].neg 2 <;> simp_all
          exact hS.sc_b (by rw [heldB, hh, heldL_stop hil hk hlt hsup])
        · skip
          try simp only [decide_eq_true_eq, decide_eq_false_iff_not, Bool.not_eq_true', Bool.not_eq_false', Bool.not_eq_eq_eq_not, Bool.not_true, Bool.not_false] at h49
          -- r9.10 t50 := load [79] t5 ?9=False
          refine al_gload (i := 10) rfl (by kernel_rfl) (by kernel_rfl) (by kernel_rfl) rfl rfl rfl (fun _ _ _ h => h) (by exact op_load1 one_79 rfl (fun w hw => (hw.bcell0 (i := 1) rfl).trans rfl)) rfl hT ?_
          -- r9.11 t51 := fieldAddr [48, 0] t8 ?9=False
          refine al_gtake (i := 11) rfl (by kernel_rfl) (by kernel_rfl) (by kernel_rfl) rfl rfl rfl (fun _ _ _ h => h) (op_fieldAddr fld_48_0 rfl) rfl ?_
          -- r9.12 t52 := load [3] t51 ?9=False
          refine al_gload (i := 12) rfl (by kernel_rfl) (by kernel_rfl) (by kernel_rfl) rfl rfl rfl (fun _ _ _ h => h) (by exact op_load1 one_3 rfl (fun w hw => (hw.bcell (i := 0) rfl).trans rfl)) rfl hT ?_
          -- r9.13 t53 := lookup [79] t50 t52 ?9=False
          refine al_gload (i := 13) rfl (by kernel_rfl) (by kernel_rfl) (by kernel_rfl) rfl rfl rfl (fun _ _ _ h => h) (by exact op_lookup map_79 hX rfl rfl (fun w hw => hw.own (.obj bm o) (by simp))) rfl hT ?_
          -- r9.14 t54 := pick  t49 Ctrue t53
          refine al_take (i := 14) rfl (by kernel_rfl) (by kernel_rfl) (by kernel_rfl) rfl (fun _ _ _ h => h) (op_pick_f rfl rfl) rfl ?_
          -- r9.15 t55 := move  t54
          refine al_take (i := 15) rfl (by kernel_rfl) (by kernel_rfl) (by kernel_rfl) rfl (fun _ _ _ h => h) (op_move rfl) rfl ?_
          refine al_split (fun h55 => ?_) (fun h55 => ?_)
          · skip
            try simp only [decide_eq_true_eq, decide_eq_false_iff_not, Bool.not_eq_true', Bool.not_eq_false', Bool.not_eq_eq_eq_not, Bool.not_true, Bool.not_false] at h55
            refine al_gskip (i := 16) rfl (by kernel_rfl) (by kernel_rfl) (by kernel_rfl) rfl rfl rfl rfl (fun _ _ _ h => h) (fun _ => hT) ?_
            refine al_gskip (i := 17) rfl (by kernel_rfl) (by kernel_rfl) (by kernel_rfl) rfl rfl rfl rfl (fun _ _ _ h => h) (fun _ => hT) ?_
            refine al_gskip (i := 18) rfl (by kernel_rfl) (by kernel_rfl) (by kernel_rfl) rfl rfl rfl rfl (fun _ _ _ h => h) (fun _ => hT) ?_
            -- r9.19 t59 := pick  t55 Ctrue t58
            refine al_take (i := 19) rfl (by kernel_rfl) (by kernel_rfl) (by kernel_rfl) rfl (fun _ _ _ h => h) (op_pick_t rfl rfl) rfl ?_
            -- r9.20 t60 := move  t59
            refine al_take (i := 20) rfl (by kernel_rfl) (by kernel_rfl) (by kernel_rfl) rfl (fun _ _ _ h => h) (op_move rfl) rfl ?_
            refine al_gskip (i := 21) rfl (by kernel_rfl) (by kernel_rfl) (by kernel_rfl) rfl rfl rfl rfl (fun _ _ _ h => h) (fun _ => hT) ?_
            refine al_gskip (i := 22) rfl (by kernel_rfl) (by kernel_rfl) (by kernel_rfl) rfl rfl rfl rfl (fun _ _ _ h => h) (fun _ => hT) ?_
            refine al_gskip (i := 23) rfl (by kernel_rfl) (by kernel_rfl) (by kernel_rfl) rfl rfl rfl rfl (fun _ _ _ h => h) (fun _ => hT) ?_
            refine al_gskip (i := 24) rfl (by kernel_rfl) (by kernel_rfl) (by kernel_rfl) rfl rfl rfl rfl (fun _ _ _ h => h) (fun _ => hT) ?_
            -- r9.25 t65 := pick  t60 Ctrue t64
            refine al_take (i := 25) rfl (by kernel_rfl) (by kernel_rfl) (by kernel_rfl) rfl (fun _ _ _ h => h) (op_pick_t rfl rfl) rfl ?_
            refine al_done (by kernel_rfl) ?_
            refine pq_then ?_
            refine cw_cond_t rfl ?_
            refine cw_seq ?_
            refine cw_region ?_
            -- r10.0 t4 := assign  Cfalse
            refine ol_pure rfl (op_assign rfl) ?_
            refine ol_nil ?_
            refine pq_then ?_
            refine cw_ret ?_
            refine pq_ret ?_
            refine pq_in_ret ?_
            refine pq_ret ?_
            refine pq_ret ?_
            refine pq_in_ret ?_
            refine pq_ret ?_
            refine ret1 rfl rfl ?_
            -- ret2 h16t h21f h30f h49f h55t
            have hsup : supB m heads rs[k] = false := by
              unfold supB
              rw [hvh]
              cases hp0 : hasB m rs[k].pos 0 <;> cases hq0 : hasB m rs[k].neg 2 <;> simp_all
            exact hS.sc_b (by rw [heldB, hh, heldL_stop hil hk hlt hsup])
          · skip
            try simp only [decide_eq_true_eq, decide_eq_false_iff_not, Bool.not_eq_true', Bool.not_eq_false', Bool.not_eq_eq_eq_not, Bool.not_true, Bool.not_false] at h55
            -- r9.16 t56 := load [53] t2 ?15=False
            refine al_gload (i := 16) rfl (by kernel_rfl) (by kernel_rfl) (by kernel_rfl) rfl rfl rfl (fun _ _ _ h => h) (by exact op_load1 one_53 rfl (fun w hw => (hw.bcell0 (i := 3) rfl).trans rfl)) rfl hT ?_
            -- r9.17 t57 := load [48] t8 ?15=False
            refine al_gload (i := 17) rfl (by kernel_rfl) (by kernel_rfl) (by kernel_rfl) rfl rfl rfl (fun _ _ _ h => h) (by exact op_loadN agg_48 rfl (by rfl) (fun w hw k u hk => (hw.bcell (i := 0) rfl).trans hk)) rfl hT ?_
            refine al_gstep (i := 18) rfl (by kernel_rfl) rfl rfl rfl (op_call_sc hS cf_52 rfl (judge_court_blocked_c G _ hS.hold b vA _ _ m hc hTo rs[k] _ _ hp hq hrk)) ?_
            clear hS
            rintro _ w ⟨rfl, hS⟩
            have hT := hT.back hS (by first | exact Le.refl _ | assumption) (fun x hx => by try simp only [List.take_succ_cons, List.take_zero, List.mem_cons, List.not_mem_nil, or_false] at hx; (rcases hx with rfl | rfl | rfl | rfl) <;> simp)
            refine ⟨fun _ _ => hT, ?_⟩
            -- r9.19 t59 := pick  t55 Ctrue t58
            refine al_take (i := 19) rfl (by kernel_rfl) (by kernel_rfl) (by kernel_rfl) rfl (fun _ _ _ h => h) (op_pick_f rfl rfl) rfl ?_
            -- r9.20 t60 := move  t59
            refine al_take (i := 20) rfl (by kernel_rfl) (by kernel_rfl) (by kernel_rfl) rfl (fun _ _ _ h => h) (op_move rfl) rfl ?_
            refine al_split (fun h60 => ?_) (fun h60 => ?_)
            · skip
              try simp only [decide_eq_true_eq, decide_eq_false_iff_not, Bool.not_eq_true', Bool.not_eq_false', Bool.not_eq_eq_eq_not, Bool.not_true, Bool.not_false] at h60
              refine al_gskip (i := 21) rfl (by kernel_rfl) (by kernel_rfl) (by kernel_rfl) rfl rfl rfl rfl (fun _ _ _ h => h) (fun _ => hT) ?_
              refine al_gskip (i := 22) rfl (by kernel_rfl) (by kernel_rfl) (by kernel_rfl) rfl rfl rfl rfl (fun _ _ _ h => h) (fun _ => hT) ?_
              refine al_gskip (i := 23) rfl (by kernel_rfl) (by kernel_rfl) (by kernel_rfl) rfl rfl rfl rfl (fun _ _ _ h => h) (fun _ => hT) ?_
              refine al_gskip (i := 24) rfl (by kernel_rfl) (by kernel_rfl) (by kernel_rfl) rfl rfl rfl rfl (fun _ _ _ h => h) (fun _ => hT) ?_
              -- r9.25 t65 := pick  t60 Ctrue t64
              refine al_take (i := 25) rfl (by kernel_rfl) (by kernel_rfl) (by kernel_rfl) rfl (fun _ _ _ h => h) (op_pick_t rfl rfl) rfl ?_
              refine al_done (by kernel_rfl) ?_
              refine pq_then ?_
              refine cw_cond_t rfl ?_
              refine cw_seq ?_
              refine cw_region ?_
              -- r10.0 t4 := assign  Cfalse
              refine ol_pure rfl (op_assign rfl) ?_
              refine ol_nil ?_
              refine pq_then ?_
              refine cw_ret ?_
              refine pq_ret ?_
              refine pq_in_ret ?_
              refine pq_ret ?_
              refine pq_ret ?_
              refine pq_in_ret ?_
              refine pq_ret ?_
              refine ret1 rfl rfl ?_
              -- ret2 h16t h21f h30f h49f h55f h60t
              have hsup : supB m heads rs[k] = false := by
                unfold supB
                rw [hvh]
                cases hp0 : hasB m rs[k].pos 0 <;> cases hq0 : hasB m rs[k].neg 2 <;> simp_all
              exact hS.sc_b (by rw [heldB, hh, heldL_stop hil hk hlt hsup])
            · skip
              try simp only [decide_eq_true_eq, decide_eq_false_iff_not, Bool.not_eq_true', Bool.not_eq_false', Bool.not_eq_eq_eq_not, Bool.not_true, Bool.not_false] at h60
              -- r9.21 t61 := fieldAddr [48, 1] t8 ?20=False
              refine al_gtake (i := 21) rfl (by kernel_rfl) (by kernel_rfl) (by kernel_rfl) rfl rfl rfl (fun _ _ _ h => h) (op_fieldAddr fld_48_1 rfl) rfl ?_
              -- r9.22 t62 := load [29] t61 ?20=False
              refine al_gload (i := 22) rfl (by kernel_rfl) (by kernel_rfl) (by kernel_rfl) rfl rfl rfl (fun _ _ _ h => h) (by exact op_load1 one_29 rfl (fun w hw => (hw.bcell (i := 0) rfl).trans rfl)) rfl hT ?_
              -- r9.23 t63 := move  t9 ?20=False
              refine al_gtake (i := 23) rfl (by kernel_rfl) (by kernel_rfl) (by kernel_rfl) rfl rfl rfl (fun _ _ _ h => h) (op_move rfl) rfl ?_
              refine al_gstep (i := 24) rfl (by kernel_rfl) rfl rfl rfl (op_call_sc hS cf_53 rfl (slices_ContainsFunc_c (fullG _) _ (Holds.full _) _ rs[k].pos (hp.mono EInt.mono hS.hold.le_full) (fun p => !decide (valI m p = 2) && !decide (p ∈ heads)) 51 [.pointer (some ⟨b2, 0, none⟩), .pointer (some ⟨b5, 0, none⟩)] cf_51 (fun w' hB x hx => by rw [← decide_eq_decide.2 (hXm x)]; exact judge_court_held_1_c (fullG _) w' ((Holds.full _).below hB) b vA _ _ m (hc.mono hS.hold.le_full) (hTo.mono EInt.mono hS.hold.le_full) b2 b5 bm o X x (hS.bcell0 (i := 3) rfl) (hS.bcell0 (i := 1) rfl) (hS.own (.obj bm o) (by simp)) hX (hrk.2.1 x hx)))) ?_
              clear hS
              rintro _ w ⟨rfl, hS⟩
              have hT := hT.back hS (by first | exact Le.refl _ | assumption) (fun x hx => by try simp only [List.take_succ_cons, List.take_zero, List.mem_cons, List.not_mem_nil, or_false] at hx; (rcases hx with rfl | rfl | rfl | rfl) <;> simp)
              refine ⟨fun _ _ => hT, ?_⟩
              -- r9.25 t65 := pick  t60 Ctrue t64
              refine al_take (i := 25) rfl (by kernel_rfl) (by kernel_rfl) (by kernel_rfl) rfl (fun _ _ _ h => h) (op_pick_f rfl rfl) rfl ?_
              refine al_done (by kernel_rfl) ?_
              refine pq_then ?_
              refine cw_cond rfl (fun h65 => ?_) (fun h65 => ?_)
              · skip
                try simp only [decide_eq_true_eq, decide_eq_false_iff_not, Bool.not_eq_true', Bool.not_eq_false', Bool.not_eq_eq_eq_not, Bool.not_true, Bool.not_false] at h65
                refine cw_seq ?_
                refine cw_region ?_
                -- r10.0 t4 := assign  Cfalse
                refine ol_pure rfl (op_assign rfl) ?_
                refine ol_nil ?_
                refine pq_then ?_
                refine cw_ret ?_
                refine pq_ret ?_
                refine pq_in_ret ?_
                refine pq_ret ?_
                refine pq_ret ?_
                refine pq_in_ret ?_
                refine pq_ret ?_
                refine ret1 rfl rfl ?_
                -- ret2 h16t h21f h30f h49f h55f h60f h65t
                have hsup : supB m heads rs[k] = false := by
                  unfold supB
                  rw [hvh]
                  cases hp0 : hasB m rs[k].pos 0 <;> cases hq0 : hasB m rs[k].neg 2 <;> simp_all
                exact hS.sc_b (by rw [heldB, hh, heldL_stop hil hk hlt hsup])
              · skip
                try simp only [decide_eq_true_eq, decide_eq_false_iff_not, Bool.not_eq_true', Bool.not_eq_false', Bool.not_eq_eq_eq_not, Bool.not_true, Bool.not_false] at h65
                refine cw_skip ?_
                refine pq_then ?_
                refine cw_region ?_
                -- r11.0 t66 := load [79] t5
                refine ol_load rfl (op_load1 one_79 rfl (fun w hw => (hw.bcell0 (i := 1) rfl).trans rfl)) hS ?_
                -- r11.1 t67 := fieldAddr [48, 0] t8
                refine ol_pure rfl (op_fieldAddr fld_48_0 rfl) ?_
                -- r11.2 t68 := load [3] t67
                refine ol_load rfl (op_load1 one_3 rfl (fun w hw => (hw.bcell (i := 0) rfl).trans rfl)) hS ?_
                -- r11.3 _ := mapUpdate [79] t66 t68 Ctrue
                refine ol_step0  (op_mapUpdate (j := 2) hS map_79 hX rfl rfl rfl rfl) ?_
                clear hS
                rintro _ w ⟨o_bm, hm_bm, hS⟩; (try simp only [List.nil_append, List.cons_append, List.set] at hS)
                refine ol_nil ?_
                refine pq_in_normal ?_
                refine pq_then ?_
                refine cw_region ?_
                -- r12.0 t69 := add t15 C1
                refine ol_pure rfl (op_add rfl rfl (by omega) (by omega)) ?_
                -- r12.1 t15 := move  t69
                refine ol_pure rfl (op_move rfl) ?_
                refine ol_nil ?_
                -- end of round 1 h16t h21f h30f h49f h55f h60f h65f
                refine pq_loop _ _ (by exact (by
                    have hsup : supB m heads rs[k] = true := by unfold supB; rw [hvh]; simp_all
                    replace hS := SS.drop [] hS
                    refine ⟨i + 1, o_bm, _, heads ++ [rs[k].head], rfl, by omega, rfl, hm_bm, (fun x => ?_), ?_, hS⟩
                    · rw [List.mem_append, ← hXm x]
                      split
                      · rename_i hm
                        constructor
                        · exact .inl
                        · rintro (h1 | h1)
                          · exact h1
                          · have : x = rs[k].head := by simpa using h1
                            rw [this]; exact hm
                      · rw [List.mem_append]
                    · rw [hh, heldL_go hil hk hlt hsup])) ((Sub.cons rfl (Sub.cons rfl (Sub.cons rfl (Sub.cons rfl (Sub.cons rfl Sub.nil)))))) (by omega)
  · skip
    try simp only [decide_eq_true_eq, decide_eq_false_iff_not, Bool.not_eq_true', Bool.not_eq_false', Bool.not_eq_eq_eq_not, Bool.not_true, Bool.not_false] at h16
    rw [List.drop_eq_nil_of_le (show l.length ≤ i by omega)] at hh
    have hh2 : heldL rs m [] l = some heads := hh
    refine cw_exit ?_
    refine pq_exit ?_
    refine pq_exit ?_
    refine pq_in_exit ?_
    refine pq_then ?_
    refine cw_seq ?_
    refine cw_seq ?_
    refine cw_region ?_
    -- r13.0 t70 := load [53] t2
    refine ol_load rfl (op_load1 one_53 rfl (fun w hw => (hw.bcell0 (i := 2) rfl).trans rfl)) hS ?_
    -- r13.1 t71 := nilCheck  t70
    refine ol_pure rfl (op_nilCheck rfl) ?_
    -- r13.2 t72 := fieldAddr [56, 1] t71
    refine ol_pure rfl (op_fieldAddr fld_56_1 rfl) ?_
    -- r13.3 t73 := load [29] t72
    refine ol_load rfl (op_load1 one_29 rfl (fun w hw => hw.gcell hc.c2)) hS ?_
    -- r13.4 t74 := call len t73
    refine ol_pure rfl (op_len sl_29 rfl rfl) ?_
    -- r13.5 t75 := move  C0
    refine ol_pure rfl (op_move rfl) ?_
    refine ol_nil ?_
    refine pq_then ?_
    refine cw_block ?_
    refine cw_loop (fun e w n => ∃ j : Nat, e = [(5, .pointer (some ⟨b5, 0, none⟩)), (73, .slice oT m.length cT), (74, .int .i64 (m.length : Nat)), (75, .int .i64 (j : Nat))] ∧ j ≤ m.length ∧ n = m.length - j ∧ (List.range j).all (fun (a : Nat) => !(decide (m.getD a 0 = 1) && !decide ((a : Int) ∈ heads))) = true ∧ SS G w0 G [.blk b5 79 [.map (some bm)], .obj bm o, .blk b2 53 [.pointer (some ⟨b, 0, none⟩)]] w) _ _ (by exact ⟨0, rfl, Nat.zero_le _, rfl, rfl, hS⟩) ((Sub.cons rfl (Sub.cons rfl (Sub.cons rfl (Sub.cons rfl Sub.nil))))) ?_
    clear hS
    rintro e w n ⟨j, rfl, hj, rfl, hp0, hS⟩
    refine cw_seq ?_
    refine cw_region ?_
    -- r14.0 t76 := lss t75 t74
    refine ol_pure rfl (op_lss rfl rfl) ?_
    refine ol_nil ?_
    refine pq_then ?_
    refine cw_seq ?_
    refine cw_cond rfl (fun h76 => ?_) (fun h76 => ?_)
    · skip
      try simp only [decide_eq_true_eq, decide_eq_false_iff_not, Bool.not_eq_true', Bool.not_eq_false', Bool.not_eq_eq_eq_not, Bool.not_true, Bool.not_false] at h76
      have hjl : j < m.length := by omega
      obtain ⟨hoT, hcT, _⟩ := hTo.int hjl
      have hg : m.getD j 0 = m[j] := by simp [hjl]
      refine cw_skip ?_
      refine pq_then ?_
      refine cw_seq ?_
      refine cw_block ?_
      refine cw_seq ?_
      refine cw_region ?_
      -- r15.0 t77 := move  t75
      refine ol_pure rfl (op_move rfl) ?_
      -- r15.1 t78 := indexAddr [29] t73 t75
      refine ol_pure rfl (op_indexN sl_29 rfl rfl (by omega) (by assumption)) ?_
      -- r15.2 t79 := load [3] t78
      refine ol_load rfl (op_load1 one_3 rfl (fun w hw => by first | exact hw.gcell (by assumption) | exact hw.gcell0 (by assumption))) hS ?_
      -- r15.3 t10 := assign  t77
      refine ol_pure rfl (op_assign rfl) ?_
      -- r15.4 t11 := assign  t79
      refine ol_pure rfl (op_assign rfl) ?_
      refine ol_nil ?_
      refine pq_then ?_
      refine cw_seq ?_
      refine cw_region ?_
      -- r16.0 t80 := move  t11
      refine ol_pure rfl (op_move rfl) ?_
      -- r16.1 t81 := eql t80 C1
      refine ol_pure rfl (op_eql rfl rfl) ?_
      -- r16.2 t82 := move  t81
      refine ol_pure rfl (op_move rfl) ?_
      refine ol_split (fun h82 => ?_) (fun h82 => ?_)
      · skip
        try simp only [decide_eq_true_eq, decide_eq_false_iff_not, Bool.not_eq_true', Bool.not_eq_false', Bool.not_eq_eq_eq_not, Bool.not_true, Bool.not_false] at h82
        -- r16.3 t83 := load [79] t5 ?2=True
        refine ol_guard_load rfl rfl rfl (op_load1 one_79 rfl (fun w hw => (hw.bcell0 (i := 0) rfl).trans rfl)) hS ?_
        -- r16.4 t84 := move  t10 ?2=True
        refine ol_guard_pure rfl rfl rfl (op_move rfl) ?_
        -- r16.5 t85 := lookup [79] t83 t84 ?2=True
        refine ol_guard_load rfl rfl rfl (op_lookup map_79 hX rfl rfl (fun w hw => hw.own (.obj bm o) (by simp))) hS ?_
        -- r16.6 t86 := not t85 ?2=True
        refine ol_guard_pure rfl rfl rfl (op_not rfl) ?_
        -- r16.7 t87 := pick  t82 t86 Cfalse
        refine ol_pure rfl (op_pick_t rfl rfl) ?_
        refine ol_nil ?_
        refine pq_then ?_
        refine cw_cond rfl (fun h87 => ?_) (fun h87 => ?_)
        · skip
          try simp only [decide_eq_true_eq, decide_eq_false_iff_not, Bool.not_eq_true', Bool.not_eq_false', Bool.not_eq_eq_eq_not, Bool.not_true, Bool.not_false] at h87
          refine cw_seq ?_
          refine cw_region ?_
          -- r17.0 t4 := assign  Cfalse
          refine ol_pure rfl (op_assign rfl) ?_
          refine ol_nil ?_
          refine pq_then ?_
          refine cw_ret ?_
          refine pq_in_ret ?_
          refine pq_ret ?_
          refine pq_ret ?_
          refine pq_in_ret ?_
          refine pq_ret ?_
          refine ret1 rfl rfl ?_
          -- ret3 h16f h76t h82t h87t
          have hx := hXm (j : Int)
          exact hS.sc_b (by
            rw [heldB, hh2]
            symm
            rw [List.all_eq_false]
            exact ⟨j, List.mem_range.2 hjl, by rw [hg]; simp_all⟩)
        · skip
          try simp only [decide_eq_true_eq, decide_eq_false_iff_not, Bool.not_eq_true', Bool.not_eq_false', Bool.not_eq_eq_eq_not, Bool.not_true, Bool.not_false] at h87
          refine cw_skip ?_
          refine pq_in_normal ?_
          refine pq_then ?_
          refine cw_region ?_
          -- r18.0 t88 := add t75 C1
          refine ol_pure rfl (op_add rfl rfl (by omega) (by omega)) ?_
          -- r18.1 t75 := move  t88
          refine ol_pure rfl (op_move rfl) ?_
          refine ol_nil ?_
          -- end of round 2 h16f h76t h82t h87f
          refine pq_loop _ _ (by exact (by
              have hx := hXm (j : Int)
              exact ⟨j + 1, rfl, by omega, rfl, by rw [List.range_succ, List.all_append, hp0]; simp only [List.all_cons, List.all_nil, hg]; simp_all, hS⟩)) ((Sub.cons rfl (Sub.cons rfl (Sub.cons rfl (Sub.cons rfl Sub.nil))))) (by omega)
      · skip
        try simp only [decide_eq_true_eq, decide_eq_false_iff_not, Bool.not_eq_true', Bool.not_eq_false', Bool.not_eq_eq_eq_not, Bool.not_true, Bool.not_false] at h82
        refine ol_guard_no rfl rfl rfl rfl ?_
        refine ol_guard_no rfl rfl rfl rfl ?_
        refine ol_guard_no rfl rfl rfl rfl ?_
        refine ol_guard_no rfl rfl rfl rfl ?_
        -- r16.7 t87 := pick  t82 t86 Cfalse
        refine ol_pure rfl (op_pick_f rfl rfl) ?_
        refine ol_nil ?_
        refine pq_then ?_
        refine cw_cond_f rfl ?_
        refine cw_skip ?_
        refine pq_in_normal ?_
        refine pq_then ?_
        refine cw_region ?_
        -- r18.0 t88 := add t75 C1
        refine ol_pure rfl (op_add rfl rfl (by omega) (by omega)) ?_
        -- r18.1 t75 := move  t88
        refine ol_pure rfl (op_move rfl) ?_
        refine ol_nil ?_
        -- end of round 2 h16f h76t h82f
        refine pq_loop _ _ (by exact (by
            have hx := hXm (j : Int)
            exact ⟨j + 1, rfl, by omega, rfl, by rw [List.range_succ, List.all_append, hp0]; simp only [List.all_cons, List.all_nil, hg]; simp_all, hS⟩)) ((Sub.cons rfl (Sub.cons rfl (Sub.cons rfl (Sub.cons rfl Sub.nil))))) (by omega)
    · skip
      try simp only [decide_eq_true_eq, decide_eq_false_iff_not, Bool.not_eq_true', Bool.not_eq_false', Bool.not_eq_eq_eq_not, Bool.not_true, Bool.not_false] at h76
      refine cw_exit ?_
      refine pq_exit ?_
      refine pq_exit ?_
      refine pq_in_exit ?_
      refine pq_then ?_
      refine cw_seq ?_
      refine cw_region ?_
      -- r19.0 t4 := assign  Ctrue
      refine ol_pure rfl (op_assign rfl) ?_
      refine ol_nil ?_
      refine pq_then ?_
      refine cw_ret ?_
      refine ret1 rfl rfl ?_
      -- ret4 h16f h76f
      have hjm : j = m.length := by omega
      subst hjm
      exact hS.sc_b (by rw [heldB, hh2]; exact hp0.symm)
end Go.Proofs.Ytbpmkidaoemebaa.K
