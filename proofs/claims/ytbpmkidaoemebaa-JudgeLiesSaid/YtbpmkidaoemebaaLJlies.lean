/-
  The walk of JudgeLies.
  No condition but the premises that each theorem names.
-/
import Derived.Test.YtbpmkidaoemebaaLaw22b
import Derived.Test.YtbpmkidaoemebaaPll
namespace Go.Proofs.Ytbpmkidaoemebaa.K
open Go Go.RowKit
set_option linter.unusedVariables false
set_option linter.unusedSimpArgs false

open Pl
theorem wrap_u8 {a : Int} (h : 0 ≤ a ∧ a ≤ 255) : IntKind.i64.wrap a = a := by
  simp [IntKind.wrap, IntKind.signed, IntKind.bits]
  omega
theorem op_geqF {P : Program} {N : Nat} {e : Env} {d : Option Tmp} {ty : TypeId} {pos : String} {after : Array Edge} {g : Option (Nat × Bool)} {k : IntKind} {t t' : TypeId} {x y : Operand} {m n : Int} (hx : ev e x = some (.int k m)) (hy : ev e y = some (.int k n)) (h : m < n) : OpP P N e ⟨d, .binOp .geq t x y t', ty, pos, after, g⟩ (.bool false) := by
  have := op_geq (P := P) (N := N) (t := t) (t' := t') (d := d) (ty := ty) (pos := pos) (after := after) (g := g) hx hy
  rwa [decide_eq_false (by omega)] at this

set_option maxRecDepth 100000 in
set_option maxHeartbeats 2000000 in

theorem L22_JudgeLies_c (G : GH) (w0 : World) (hG : Holds G w0) (va vr : Value) (atoms : List (List Cell)) (rs : List Rule) (h1 : RSl 1 EAtom G va atoms) (h2 : RSl 3 ERule G vr rs) (z : Int) (hz : 0 ≤ z ∧ z ≤ 255) (vl : Value) (l : List Int) (h3 : RSl 1 EInt G vl l) :
    Calls Try.prog 10 #[.agg #[va, vr], .int .u8 z, vl] w0 (Sc w0 (.bool true)) := by
  obtain ⟨oA, cA, rfl, hlA, hmA⟩ := h1.elim
  obtain ⟨oR, cR, rfl, hlR, hmR⟩ := h2.elim
  obtain ⟨oL, cL, rfl, hlL, hmL⟩ := h3.elim
  have hLle := h3.le
  refine enter Try.func10 rfl (N := 138) rfl (Nat.le_of_ble_eq_true rfl) ?_
  have hS := SS.init hG
  refine cw_seq ?_
  refine cw_region ?_
  -- r0.0 t3 := box [25] t0
  refine ol_step rfl (op_box hS rfl rfl) ?_
  clear hS
  rintro _ w ⟨b3, rfl, hS⟩
  -- r0.1 t6 := assign  Cfalse
  refine ol_pure rfl (op_assign rfl) ?_
  refine ol_nil ?_
  refine pq_then ?_
  refine cw_seq ?_
  refine cw_region ?_
  -- r1.0 t17 := call f11 
  refine ol_step rfl (op_call_sc hS cf_11 rfl (L22_head_c G _ hS.hold)) ?_
  clear hS
  rintro _ w ⟨rfl, hS⟩
  -- r1.1 t7 := assign  t17
  refine ol_pure rfl (op_assign rfl) ?_
  refine ol_nil ?_
  refine pq_then ?_
  refine cw_seq ?_
  refine cw_seq ?_
  refine cw_region ?_
  -- r2.0 t18 := load [25] t3
  refine ol_load rfl (op_loadN agg_25 rfl (by rfl) (fun w hw k u hk => (hw.bcell (i := 0) rfl).trans hk)) hS ?_
  -- r2.1 t19 := build [31] 
  refine ol_pure rfl (op_build (is := []) (xs := []) (v := .agg #[.slice none 0 0, .slice none 0 0]) rfl rfl (fun w => by kernel_rfl)) ?_
  -- r2.2 t20 := call f12 t18 t19
  refine ol_step rfl (op_call_sc hS cf_12 rfl (L22_great_c G _ hS.hold _ _ atoms rs h1 h2 _ _ [] [] (RSl.nil _) (RSl.nil _))) ?_
  clear hS
  rintro _ w ⟨rfl, hS⟩
  -- r2.3 t21 := move  t20
  refine ol_pure rfl (op_move rfl) ?_
  refine ol_split (fun h21 => ?_) (fun h21 => ?_)
  · skip
    try simp only [decide_eq_true_eq, decide_eq_false_iff_not, Bool.not_eq_true', Bool.not_eq_false', Bool.not_eq_eq_eq_not, Bool.not_true, Bool.not_false] at h21
    refine ol_guard_no rfl rfl rfl rfl ?_
    refine ol_guard_no rfl rfl rfl rfl ?_
    refine ol_guard_no rfl rfl rfl rfl ?_
    -- r2.7 t25 := pick  t21 Ctrue t24
    refine ol_pure rfl (op_pick_t rfl rfl) ?_
    refine ol_nil ?_
    refine pq_then ?_
    refine cw_cond_t rfl ?_
    refine cw_seq ?_
    refine cw_region ?_
    -- r3.0 t26 := move  t7
    refine ol_pure rfl (op_move rfl) ?_
    -- r3.1 t6 := assign  t26
    refine ol_pure rfl (op_assign rfl) ?_
    refine ol_nil ?_
    refine pq_then ?_
    refine cw_ret ?_
    refine pq_ret ?_
    refine ret1 rfl rfl ?_
    -- ret1 h21t
    exact hS.sc_b rfl
  · skip
    try simp only [decide_eq_true_eq, decide_eq_false_iff_not, Bool.not_eq_true', Bool.not_eq_false', Bool.not_eq_eq_eq_not, Bool.not_true, Bool.not_false] at h21
    have hgr := greatB_f h21
    have hP := PrOk.of_great hgr.1 hgr.2.1
    have hPn := hP.n_le
    have hPm := hP.m_le
    have hle0 := Le.refl G
    -- r2.4 t22 := move  t2 ?3=False
    refine ol_guard_pure rfl rfl rfl (op_move rfl) ?_
    -- r2.5 t23 := call len t22 ?3=False
    refine ol_guard_pure rfl rfl rfl (op_len sl_29 rfl rfl) ?_
    -- r2.6 t24 := gtr t23 C50 ?3=False
    refine ol_guard_pure rfl rfl rfl (op_gtr rfl rfl) ?_
    -- r2.7 t25 := pick  t21 Ctrue t24
    refine ol_pure rfl (op_pick_f rfl rfl) ?_
    refine ol_nil ?_
    refine pq_then ?_
    refine cw_cond rfl (fun h25 => ?_) (fun h25 => ?_)
    · skip
      try simp only [decide_eq_true_eq, decide_eq_false_iff_not, Bool.not_eq_true', Bool.not_eq_false', Bool.not_eq_eq_eq_not, Bool.not_true, Bool.not_false] at h25
      refine cw_seq ?_
      refine cw_region ?_
      -- r3.0 t26 := move  t7
      refine ol_pure rfl (op_move rfl) ?_
      -- r3.1 t6 := assign  t26
      refine ol_pure rfl (op_assign rfl) ?_
      refine ol_nil ?_
      refine pq_then ?_
      refine cw_ret ?_
      refine pq_ret ?_
      refine ret1 rfl rfl ?_
      -- ret1 h21f h25t
      exact hS.sc_b rfl
    · skip
      try simp only [decide_eq_true_eq, decide_eq_false_iff_not, Bool.not_eq_true', Bool.not_eq_false', Bool.not_eq_eq_eq_not, Bool.not_true, Bool.not_false] at h25
      refine cw_skip ?_
      refine pq_then ?_
      refine cw_seq ?_
      refine cw_region ?_
      -- r4.0 t27 := load [25] t3
      refine ol_load rfl (op_loadN agg_25 rfl (by rfl) (fun w hw k u hk => (hw.bcell (i := 0) rfl).trans hk)) hS ?_
      -- r4.1 t28 := call f17 t27
      refine ol_step rfl (op_call_fr hS cf_17 rfl (wfm_Model_c _ _ hS.hold EAtom.mono _ _ atoms rs (h1.mono EAtom.mono hle0) (h2.mono ERule.mono hle0) hP)) ?_
      clear hS
      rintro v28 w ⟨F28, G28, hR28, hF28, hf28, hl28, hS⟩
      obtain ⟨oW, cW, rfl, _, _⟩ := hR28.elimN (modelI_len _ _)
      have hW := hR28.mono EInt.mono hf28
      
      -- r4.2 t8 := assign  t28
      refine ol_pure rfl (op_assign rfl) ?_
      refine ol_nil ?_
      refine pq_then ?_
      refine cw_seq ?_
      refine cw_seq ?_
      refine cw_region ?_
      -- r5.0 t29 := move  t8
      refine ol_pure rfl (op_move rfl) ?_
      -- r5.1 t30 := call len t29
      refine ol_pure rfl (op_len sl_29 rfl rfl) ?_
      -- r5.2 t31 := fieldAddr [25, 0] t3
      refine ol_pure rfl (op_fieldAddr fld_25_0 rfl) ?_
      -- r5.3 t32 := load [22] t31
      refine ol_load rfl (op_load1 one_22 rfl (fun w hw => (hw.bcell (i := 0) rfl).trans rfl)) hS ?_
      -- r5.4 t33 := call len t32
      refine ol_pure rfl (op_len sl_22 rfl rfl) ?_
      -- r5.5 t34 := neq t30 t33
      refine ol_pure rfl (op_neqF rfl rfl rfl) ?_
      refine ol_nil ?_
      refine pq_then ?_
      refine cw_cond_f rfl ?_
      refine cw_skip ?_
      refine pq_then ?_
      refine cw_seq ?_
      refine cw_region ?_
      -- r7.0 t36 := load [25] t3
      refine ol_load rfl (op_loadN agg_25 rfl (by rfl) (fun w hw k u hk => (hw.bcell (i := 0) rfl).trans hk)) hS ?_
      -- r7.1 t37 := move  t2
      refine ol_pure rfl (op_move rfl) ?_
      -- r7.2 t38 := build [44] 0:C-1 1:t37
      refine ol_pure rfl (op_build (is := [0, 1]) (xs := [.const (.int .i64 (-1)), .tmp 37]) (v := .agg #[.int .i64 (-1), .slice oL l.length cL]) rfl rfl (fun w => by kernel_rfl)) ?_
      -- r7.3 t39 := buildSlice [28, 1] 0:t38
      refine ol_step rfl (op_buildSlice (el := 44) (is := [0]) (xs := [.tmp 38]) (sz := 2) (cs := [.int .i64 (-1), .slice oL l.length cL]) hS rfl rfl (fun w => by kernel_rfl) rfl (by decide)) ?_
      clear hS
      rintro _ w ⟨s39, rfl, hS⟩
      obtain ⟨G39, hl39, hS2, h39⟩ := SS.give' [(⟨-1, l⟩ : Step)] [] EStep.mono hS (by decide) (by exact (Rows.nil (sz := 2) (E := EStep) _).snoc (x := ⟨-1, l⟩) (cs := [.int .i64 (-1), .slice oL l.length cL]) rfl ⟨_, rfl, h3.mono EInt.mono hl28, by show (-9223372036854775808 : Int) ≤ -1; decide, by show (-1 : Int) ≤ 9223372036854775807; decide⟩) rfl
      clear hS
      have hS := hS2
      clear hS2
      (try simp only [List.nil_append, List.cons_append] at hS)
      
      -- r7.4 t40 := call f19 t36 t39
      refine ol_step rfl (op_call_fr hS cf_19 rfl (judge_Partly_c _ _ hS.hold _ _ atoms rs (h1.mono EAtom.mono (hl28.trans hl39)) (h2.mono ERule.mono (hl28.trans hl39)) hP _ [⟨-1, l⟩] h39)) ?_
      clear hS
      rintro v40 w ⟨F40, G40, hR40, hF40, hf40, hl40, hS⟩
      obtain ⟨vm40, hv, hA⟩ := hR40
      subst hv
      obtain ⟨oA2, cA2, rfl, _, _⟩ := hA.elimN (n := atoms.length) (by rw [partly_len]; simp [startI])
      replace hA := hA.mono EInt.mono hf40
      have hl40b := (hl28.trans hl39).trans hl40
      replace hW := (hW.mono EInt.mono hl39).mono EInt.mono hl40
      -- r7.5 t35 := move  t40
      refine ol_pure rfl (op_move rfl) ?_
      -- r7.6 t41 := extract [0] t35
      refine ol_pure rfl (op_extract (vs := [.slice oA2 atoms.length cA2, .int .i64 ((partly rs (startI atoms.length) [⟨-1, l⟩]).2 : Nat)]) rfl rfl) ?_
      -- r7.7 t42 := extract [1] t35
      refine ol_pure rfl (op_extract (vs := [.slice oA2 atoms.length cA2, .int .i64 ((partly rs (startI atoms.length) [⟨-1, l⟩]).2 : Nat)]) rfl rfl) ?_
      -- r7.8 t9 := assign  t41
      refine ol_pure rfl (op_assign rfl) ?_
      -- r7.9 t10 := assign  t42
      refine ol_pure rfl (op_assign rfl) ?_
      refine ol_nil ?_
      refine pq_then ?_
      refine cw_seq ?_
      refine cw_seq ?_
      refine cw_region ?_
      -- r8.0 t11 := assign  C0
      refine ol_pure rfl (op_assign rfl) ?_
      refine ol_nil ?_
      refine pq_then ?_
      refine cw_block ?_
      refine cw_loop (fun e w n => ∃ k : Nat, e = [(1, .int .u8 z), (2, .slice oL l.length cL), (3, .pointer (some ⟨b3, 0, none⟩)), (7, .bool true), (8, .slice oW atoms.length cW), (10, .int .i64 ((partly rs (startI atoms.length) [⟨-1, l⟩]).2 : Nat)), (11, .int .i64 (k : Nat))] ∧ k ≤ l.length ∧ n = l.length - k ∧ SS G w0 G40 [.blk b3 25 [.slice oA atoms.length cA, .slice oR rs.length cR]] w) _ _ (by exact ⟨0, rfl, Nat.zero_le _, rfl, hS⟩) ((Sub.cons rfl (Sub.cons rfl (Sub.cons rfl (Sub.cons rfl (Sub.cons rfl (Sub.cons rfl (Sub.cons rfl Sub.nil)))))))) ?_
      clear hS
      rintro e w n ⟨k, rfl, hk, rfl, hS⟩
      refine cw_seq ?_
      refine cw_seq ?_
      refine cw_region ?_
      -- r9.0 t43 := move  t11
      refine ol_pure rfl (op_move rfl) ?_
      -- r9.1 t44 := move  t2
      refine ol_pure rfl (op_move rfl) ?_
      -- r9.2 t45 := call len t44
      refine ol_pure rfl (op_len sl_29 rfl rfl) ?_
      -- r9.3 t46 := lss t43 t45
      refine ol_pure rfl (op_lss rfl rfl) ?_
      -- r9.4 t47 := move  t46
      refine ol_pure rfl (op_move rfl) ?_
      refine ol_split (fun h47 => ?_) (fun h47 => ?_)
      · skip
        try simp only [decide_eq_true_eq, decide_eq_false_iff_not, Bool.not_eq_true', Bool.not_eq_false', Bool.not_eq_eq_eq_not, Bool.not_true, Bool.not_false] at h47
        -- r9.5 t48 := move  t10 ?4=True
        refine ol_guard_pure rfl rfl rfl (op_move rfl) ?_
        -- r9.6 t49 := eql t48 C1 ?4=True
        refine ol_guard_pure rfl rfl rfl (op_eql rfl rfl) ?_
        -- r9.7 t50 := pick  t47 t49 Cfalse
        refine ol_pure rfl (op_pick_t rfl rfl) ?_
        refine ol_nil ?_
        refine pq_then ?_
        refine cw_cond rfl (fun h50 => ?_) (fun h50 => ?_)
        · skip
          try simp only [decide_eq_true_eq, decide_eq_false_iff_not, Bool.not_eq_true', Bool.not_eq_false', Bool.not_eq_eq_eq_not, Bool.not_true, Bool.not_false] at h50
          have hlt : k < l.length := by omega
          obtain ⟨hoL, hcL, hbL⟩ := (h3.mono EInt.mono hl40b).int hlt
          have hlz := lies_set hP (l := l) (by omega) (List.getElem_mem hlt)
          obtain ⟨x, hx⟩ := Int.eq_ofNat_of_zero_le hlz.1.1
          have hxn : x < (modelI atoms.length rs).length := by rw [modelI_len]; omega
          obtain ⟨hoW, hcW, _⟩ := hW.int hxn
          have hz0 : (modelI atoms.length rs)[x] = 0 := by
            have := hlz.2
            rw [hx, Int.toNat_natCast, List.getD_eq_getElem?_getD, List.getElem?_eq_getElem hxn] at this
            exact this
          rw [hx] at hcL
          refine cw_skip ?_
          refine pq_then ?_
          refine cw_seq ?_
          refine cw_block ?_
          refine cw_seq ?_
          refine cw_region ?_
          -- r11.0 t53 := move  t2
          refine ol_pure rfl (op_move rfl) ?_
          -- r11.1 t54 := move  t11
          refine ol_pure rfl (op_move rfl) ?_
          -- r11.2 t55 := indexAddr [29] t53 t54
          refine ol_pure rfl (op_indexN sl_29 rfl rfl (by omega) (by assumption)) ?_
          -- r11.3 t56 := load [3] t55
          refine ol_load rfl (op_load1 one_3 rfl (fun w hw => hw.gcell hcL)) hS ?_
          -- r11.4 t57 := lss t56 C0
          refine ol_pure rfl (op_lssF rfl rfl (by omega)) ?_
          -- r11.5 t58 := move  t57
          refine ol_pure rfl (op_move rfl) ?_
          -- r11.6 t59 := move  t2 ?5=False
          refine ol_guard_pure rfl rfl rfl (op_move rfl) ?_
          -- r11.7 t60 := move  t11 ?5=False
          refine ol_guard_pure rfl rfl rfl (op_move rfl) ?_
          -- r11.8 t61 := indexAddr [29] t59 t60 ?5=False
          refine ol_guard_pure rfl rfl rfl (op_indexN sl_29 rfl rfl (by omega) (by assumption)) ?_
          -- r11.9 t62 := load [3] t61 ?5=False
          refine ol_guard_load rfl rfl rfl (op_load1 one_3 rfl (fun w hw => hw.gcell hcL)) hS ?_
          -- r11.10 t63 := move  t8 ?5=False
          refine ol_guard_pure rfl rfl rfl (op_move rfl) ?_
          -- r11.11 t64 := call len t63 ?5=False
          refine ol_guard_pure rfl rfl rfl (op_len sl_29 rfl rfl) ?_
          -- r11.12 t65 := geq t62 t64 ?5=False
          refine ol_guard_pure rfl rfl rfl (op_geqF rfl rfl (by omega)) ?_
          -- r11.13 t66 := pick  t58 Ctrue t65
          refine ol_pure rfl (op_pick_f rfl rfl) ?_
          -- r11.14 t67 := move  t66
          refine ol_pure rfl (op_move rfl) ?_
          -- r11.15 t68 := move  t8 ?14=False
          refine ol_guard_pure rfl rfl rfl (op_move rfl) ?_
          -- r11.16 t69 := move  t2 ?14=False
          refine ol_guard_pure rfl rfl rfl (op_move rfl) ?_
          -- r11.17 t70 := move  t11 ?14=False
          refine ol_guard_pure rfl rfl rfl (op_move rfl) ?_
          -- r11.18 t71 := indexAddr [29] t69 t70 ?14=False
          refine ol_guard_pure rfl rfl rfl (op_indexN sl_29 rfl rfl (by omega) (by assumption)) ?_
          -- r11.19 t72 := load [3] t71 ?14=False
          refine ol_guard_load rfl rfl rfl (op_load1 one_3 rfl (fun w hw => hw.gcell hcL)) hS ?_
          -- r11.20 t73 := indexAddr [29] t68 t72 ?14=False
          refine ol_guard_pure rfl rfl rfl (op_indexN sl_29 rfl rfl (by omega) hoW) ?_
          -- r11.21 t74 := load [3] t73 ?14=False
          refine ol_guard_load rfl rfl rfl (op_load1 one_3 rfl (fun w hw => hw.gcell hcW)) hS ?_
          -- r11.22 t75 := neq t74 C0 ?14=False
          refine ol_guard_pure rfl rfl rfl (op_neqF rfl rfl hz0) ?_
          -- r11.23 t76 := pick  t67 Ctrue t75
          refine ol_pure rfl (op_pick_f rfl rfl) ?_
          refine ol_nil ?_
          refine pq_then ?_
          refine cw_cond_f rfl ?_
          refine cw_skip ?_
          refine pq_in_normal ?_
          refine pq_then ?_
          refine cw_region ?_
          -- r10.0 t51 := move  t11
          refine ol_pure rfl (op_move rfl) ?_
          -- r10.1 t52 := add t51 C1
          refine ol_pure rfl (op_add rfl rfl (by omega) (by omega)) ?_
          -- r10.2 t11 := assign  t52
          refine ol_pure rfl (op_assign rfl) ?_
          refine ol_nil ?_
          -- end of round 1 h21f h25f h47t h50t
          refine pq_loop _ _ (by exact ⟨k + 1, rfl, by omega, rfl, hS⟩) ((Sub.cons rfl (Sub.cons rfl (Sub.cons rfl (Sub.cons rfl (Sub.cons rfl (Sub.cons rfl (Sub.cons rfl Sub.nil)))))))) (by omega)
        · skip
          try simp only [decide_eq_true_eq, decide_eq_false_iff_not, Bool.not_eq_true', Bool.not_eq_false', Bool.not_eq_eq_eq_not, Bool.not_true, Bool.not_false] at h50
          refine cw_exit ?_
          refine pq_exit ?_
          refine pq_exit ?_
          refine pq_in_exit ?_
          refine pq_then ?_
          refine cw_seq ?_
          refine cw_seq ?_
          refine cw_region ?_
          -- r13.0 t77 := fieldAddr [25, 1] t3
          refine ol_pure rfl (op_fieldAddr fld_25_1 rfl) ?_
          -- r13.1 t78 := load [23] t77
          refine ol_load rfl (op_load1 one_23 rfl (fun w hw => (hw.bcell (i := 0) rfl).trans rfl)) hS ?_
          -- r13.2 t79 := call len t78
          refine ol_pure rfl (op_len sl_23 rfl rfl) ?_
          -- r13.3 t80 := eql t79 C0
          refine ol_pure rfl (op_eql rfl rfl) ?_
          refine ol_nil ?_
          refine pq_then ?_
          refine cw_cond rfl (fun h80 => ?_) (fun h80 => ?_)
          · skip
            try simp only [decide_eq_true_eq, decide_eq_false_iff_not, Bool.not_eq_true', Bool.not_eq_false', Bool.not_eq_eq_eq_not, Bool.not_true, Bool.not_false] at h80
            refine cw_seq ?_
            refine cw_region ?_
            -- r14.0 t81 := move  t7
            refine ol_pure rfl (op_move rfl) ?_
            -- r14.1 t6 := assign  t81
            refine ol_pure rfl (op_assign rfl) ?_
            refine ol_nil ?_
            refine pq_then ?_
            refine cw_ret ?_
            refine pq_ret ?_
            refine ret1 rfl rfl ?_
            -- ret4 h21f h25f h47t h50f h80t
            exact hS.sc_b rfl
          · skip
            try simp only [decide_eq_true_eq, decide_eq_false_iff_not, Bool.not_eq_true', Bool.not_eq_false', Bool.not_eq_eq_eq_not, Bool.not_true, Bool.not_false] at h80
            obtain ⟨kk, hkk⟩ := Int.eq_ofNat_of_zero_le (Int.emod_nonneg z (show ((rs.length : Nat) : Int) ≠ 0 by omega))
            have hk1 := Int.emod_lt_of_pos z (show (0 : Int) < (rs.length : Nat) by omega)
            have hlt : kk < rs.length := by omega
            have hrk := (hP.rule _ (List.getElem_mem hlt)).1
            obtain ⟨hoa, cs, hcl, ⟨p, q, rfl, hp, hq, hhd⟩, hcells⟩ := h2.el hlt
            obtain ⟨op, cp, hpe, hlp, hmp⟩ := hp.elim
            obtain ⟨oq, cq, hqe, hlq, hmq⟩ := hq.elim
            subst hpe
            subst hqe
            have hple := hp.le
            have hgr2 := (greatG_iff.1 hgr.1).2.2.2 _ (List.getElem_mem hlt)
            have hlr := lies_rule hP hlt
            have heqb : (decide ((((partly rs (startI atoms.length) [⟨(kk : Int), [rs[kk].head]⟩]).2 : Nat) : Int) = 1) == decide ((rs[kk].pos.length : Int) + (rs[kk].neg.length : Nat) = 0)) = true := by
              rw [hlr.1]
              by_cases h0 : rs[kk].pos.length + rs[kk].neg.length = 0
              · rw [if_pos h0, decide_eq_true (by omega), decide_eq_true (by omega)]
                rfl
              · rw [if_neg h0, decide_eq_false (by omega), decide_eq_false (by omega)]
                rfl
            refine cw_skip ?_
            refine pq_then ?_
            refine cw_seq ?_
            refine cw_region ?_
            -- r15.0 t82 := move  t1
            refine ol_pure rfl (op_move rfl) ?_
            -- r15.1 t83 := convert [5, 3] t82
            refine ol_pure rfl (op_conv ⟨_, Try.underlying5⟩ Try.underlying3 rfl (wrap_u8 hz)) ?_
            -- r15.2 t84 := fieldAddr [25, 1] t3
            refine ol_pure rfl (op_fieldAddr fld_25_1 rfl) ?_
            -- r15.3 t85 := load [23] t84
            refine ol_load rfl (op_load1 one_23 rfl (fun w hw => (hw.bcell (i := 0) rfl).trans rfl)) hS ?_
            -- r15.4 t86 := call len t85
            refine ol_pure rfl (op_len sl_23 rfl rfl) ?_
            -- r15.5 t87 := rem t83 t86
            refine ol_pure rfl (op_val (op_rem rfl rfl (by omega) (by omega)) (congrArg (Value.int .i64) hkk)) ?_
            -- r15.6 t12 := assign  t87
            refine ol_pure rfl (op_assign rfl) ?_
            refine ol_nil ?_
            refine pq_then ?_
            refine cw_seq ?_
            refine cw_region ?_
            -- r16.0 t88 := fieldAddr [25, 1] t3
            refine ol_pure rfl (op_fieldAddr fld_25_1 rfl) ?_
            -- r16.1 t89 := load [23] t88
            refine ol_load rfl (op_load1 one_23 rfl (fun w hw => (hw.bcell (i := 0) rfl).trans rfl)) hS ?_
            -- r16.2 t90 := move  t12
            refine ol_pure rfl (op_move rfl) ?_
            -- r16.3 t91 := indexAddr [23] t89 t90
            refine ol_pure rfl (op_indexN sl_23 rfl rfl (by omega) (by assumption)) ?_
            -- r16.4 t92 := fieldAddr [48, 0] t91
            refine ol_pure rfl (op_fieldAddr fld_48_0 rfl) ?_
            -- r16.5 t93 := load [3] t92
            refine ol_load rfl (op_load1 one_3 rfl (fun w hw => hw.gcell0 (hcells 0 _ rfl))) hS ?_
            -- r16.6 t13 := assign  t93
            refine ol_pure rfl (op_assign rfl) ?_
            refine ol_nil ?_
            refine pq_then ?_
            refine cw_seq ?_
            refine cw_region ?_
            -- r17.0 t95 := load [25] t3
            refine ol_load rfl (op_loadN agg_25 rfl (by rfl) (fun w hw k u hk => (hw.bcell (i := 0) rfl).trans hk)) hS ?_
            -- r17.1 t96 := move  t12
            refine ol_pure rfl (op_move rfl) ?_
            -- r17.2 t97 := move  t13
            refine ol_pure rfl (op_move rfl) ?_
            -- r17.3 t98 := buildSlice [29, 1] 0:t97
            refine ol_step rfl (op_buildSlice (el := 3) (is := [0]) (xs := [.tmp 97]) (sz := 1) (cs := [.int .i64 rs[kk].head]) hS rfl rfl (fun w => by kernel_rfl) rfl (by decide)) ?_
            clear hS
            rintro _ w ⟨s98, rfl, hS⟩
            obtain ⟨G98, hl98, hS2, h98⟩ := SS.give' [rs[kk].head] [] EInt.mono hS (by decide) (by exact oneInt _ _ hhd) rfl
            clear hS
            have hS := hS2
            clear hS2
            (try simp only [List.nil_append, List.cons_append] at hS)
            
            -- r17.4 t99 := build [44] 0:t96 1:t98
            refine ol_pure rfl (op_build (is := [0, 1]) (xs := [.tmp 96, .tmp 98]) (v := .agg #[.int .i64 (kk : Nat), .slice s98 1 1]) rfl rfl (fun w => by kernel_rfl)) ?_
            -- r17.5 t100 := buildSlice [28, 1] 0:t99
            refine ol_step rfl (op_buildSlice (el := 44) (is := [0]) (xs := [.tmp 99]) (sz := 2) (cs := [.int .i64 (kk : Nat), .slice s98 1 1]) hS rfl rfl (fun w => by kernel_rfl) rfl (by decide)) ?_
            clear hS
            rintro _ w ⟨s100, rfl, hS⟩
            obtain ⟨G100, hl100, hS2, h100⟩ := SS.give' [(⟨(kk : Int), [rs[kk].head]⟩ : Step)] [] EStep.mono hS (by decide) (by exact (Rows.nil (sz := 2) (E := EStep) _).snoc (x := ⟨(kk : Int), [rs[kk].head]⟩) (cs := [.int .i64 (kk : Nat), .slice s98 1 1]) rfl ⟨_, rfl, h98, by show (-9223372036854775808 : Int) ≤ (kk : Int); omega, by show (kk : Int) ≤ 9223372036854775807; omega⟩) rfl
            clear hS
            have hS := hS2
            clear hS2
            (try simp only [List.nil_append, List.cons_append] at hS)
            
            -- r17.6 t101 := call f19 t95 t100
            refine ol_step rfl (op_call_fr hS cf_19 rfl (judge_Partly_c _ _ hS.hold _ _ atoms rs (h1.mono EAtom.mono ((hl40b.trans hl98).trans hl100)) (h2.mono ERule.mono ((hl40b.trans hl98).trans hl100)) hP _ [⟨(kk : Int), [rs[kk].head]⟩] h100)) ?_
            clear hS
            rintro v101 w ⟨F101, G101, hR101, hF101, hf101, hl101, hS⟩
            obtain ⟨vm101, hv, hB⟩ := hR101
            subst hv
            obtain ⟨oB, cB, rfl, _, _⟩ := hB.elimN (n := atoms.length) (by rw [partly_len]; simp [startI])
            replace hB := hB.mono EInt.mono hf101
            replace hW := ((hW.mono EInt.mono hl98).mono EInt.mono hl100).mono EInt.mono hl101
            -- r17.7 t94 := move  t101
            refine ol_pure rfl (op_move rfl) ?_
            -- r17.8 t102 := extract [0] t94
            refine ol_pure rfl (op_extract (vs := [.slice oB atoms.length cB, .int .i64 ((partly rs (startI atoms.length) [⟨(kk : Int), [rs[kk].head]⟩]).2 : Nat)]) rfl rfl) ?_
            -- r17.9 t103 := extract [1] t94
            refine ol_pure rfl (op_extract (vs := [.slice oB atoms.length cB, .int .i64 ((partly rs (startI atoms.length) [⟨(kk : Int), [rs[kk].head]⟩]).2 : Nat)]) rfl rfl) ?_
            -- r17.10 t14 := assign  t102
            refine ol_pure rfl (op_assign rfl) ?_
            -- r17.11 t15 := assign  t103
            refine ol_pure rfl (op_assign rfl) ?_
            refine ol_nil ?_
            refine pq_then ?_
            refine cw_seq ?_
            refine al_start' hS (hS.take 1) (by kernel_rfl) rfl (fun w hS hT => ?_)
            -- r18.0 t104 := fieldAddr [25, 1] t3
            refine al_take (i := 0) rfl (by kernel_rfl) (by kernel_rfl) (by kernel_rfl) rfl (fun _ _ _ h => h) (op_fieldAddr fld_25_1 rfl) rfl ?_
            -- r18.1 t105 := load [23] t104
            refine al_load (i := 1) rfl (by kernel_rfl) (by kernel_rfl) (by kernel_rfl) rfl (fun _ _ _ h => h) (by exact op_load1 one_23 rfl (fun w hw => (hw.bcell (i := 0) rfl).trans rfl)) rfl hT ?_
            -- r18.2 t106 := move  t12
            refine al_take (i := 2) rfl (by kernel_rfl) (by kernel_rfl) (by kernel_rfl) rfl (fun _ _ _ h => h) (op_move rfl) rfl ?_
            -- r18.3 t107 := indexAddr [23] t105 t106
            refine al_take (i := 3) rfl (by kernel_rfl) (by kernel_rfl) (by kernel_rfl) rfl (fun _ _ _ h => h) (op_indexN sl_23 rfl rfl (by omega) hoa) rfl ?_
            -- r18.4 t108 := fieldAddr [48, 1] t107
            refine al_take (i := 4) rfl (by kernel_rfl) (by kernel_rfl) (by kernel_rfl) rfl (fun _ _ _ h => h) (op_fieldAddr fld_48_1 rfl) rfl ?_
            -- r18.5 t109 := load [29] t108
            refine al_load (i := 5) rfl (by kernel_rfl) (by kernel_rfl) (by kernel_rfl) rfl (fun _ _ _ h => h) (by exact op_load1 one_29 rfl (fun w hw => hw.gcell0 (hcells 1 _ rfl))) rfl hT ?_
            -- r18.6 t110 := call len t109
            refine al_take (i := 6) rfl (by kernel_rfl) (by kernel_rfl) (by kernel_rfl) rfl (fun _ _ _ h => h) (op_len sl_29 rfl rfl) rfl ?_
            -- r18.7 t111 := fieldAddr [25, 1] t3
            refine al_take (i := 7) rfl (by kernel_rfl) (by kernel_rfl) (by kernel_rfl) rfl (fun _ _ _ h => h) (op_fieldAddr fld_25_1 rfl) rfl ?_
            -- r18.8 t112 := load [23] t111
            refine al_load (i := 8) rfl (by kernel_rfl) (by kernel_rfl) (by kernel_rfl) rfl (fun _ _ _ h => h) (by exact op_load1 one_23 rfl (fun w hw => (hw.bcell (i := 0) rfl).trans rfl)) rfl hT ?_
            -- r18.9 t113 := move  t12
            refine al_take (i := 9) rfl (by kernel_rfl) (by kernel_rfl) (by kernel_rfl) rfl (fun _ _ _ h => h) (op_move rfl) rfl ?_
            -- r18.10 t114 := indexAddr [23] t112 t113
            refine al_take (i := 10) rfl (by kernel_rfl) (by kernel_rfl) (by kernel_rfl) rfl (fun _ _ _ h => h) (op_indexN sl_23 rfl rfl (by omega) hoa) rfl ?_
            -- r18.11 t115 := fieldAddr [48, 2] t114
            refine al_take (i := 11) rfl (by kernel_rfl) (by kernel_rfl) (by kernel_rfl) rfl (fun _ _ _ h => h) (op_fieldAddr fld_48_2 rfl) rfl ?_
            -- r18.12 t116 := load [29] t115
            refine al_load (i := 12) rfl (by kernel_rfl) (by kernel_rfl) (by kernel_rfl) rfl (fun _ _ _ h => h) (by exact op_load1 one_29 rfl (fun w hw => hw.gcell0 (hcells 2 _ rfl))) rfl hT ?_
            -- r18.13 t117 := call len t116
            refine al_take (i := 13) rfl (by kernel_rfl) (by kernel_rfl) (by kernel_rfl) rfl (fun _ _ _ h => h) (op_len sl_29 rfl rfl) rfl ?_
            -- r18.14 t118 := add t110 t117
            refine al_take (i := 14) rfl (by kernel_rfl) (by kernel_rfl) (by kernel_rfl) rfl (fun _ _ _ h => h) (op_add rfl rfl (by omega) (by omega)) rfl ?_
            -- r18.15 t119 := eql t118 C0
            refine al_take (i := 15) rfl (by kernel_rfl) (by kernel_rfl) (by kernel_rfl) rfl (fun _ _ _ h => h) (op_eql rfl rfl) rfl ?_
            -- r18.16 t16 := assign  t119
            refine al_take (i := 16) rfl (by kernel_rfl) (by kernel_rfl) (by kernel_rfl) rfl (fun _ _ _ h => h) (op_assign rfl) rfl ?_
            refine al_done (by kernel_rfl) ?_
            refine pq_then ?_
            refine cw_seq ?_
            refine cw_region ?_
            -- r19.0 t120 := move  t7
            refine ol_pure rfl (op_move rfl) ?_
            -- r19.1 t121 := move  t120
            refine ol_pure rfl (op_move rfl) ?_
            -- r19.2 t122 := move  t15 ?1=True
            refine ol_guard_pure rfl rfl rfl (op_move rfl) ?_
            -- r19.3 t123 := eql t122 C1 ?1=True
            refine ol_guard_pure rfl rfl rfl (op_eql rfl rfl) ?_
            -- r19.4 t124 := move  t16 ?1=True
            refine ol_guard_pure rfl rfl rfl (op_move rfl) ?_
            -- r19.5 t125 := eql t123 t124 ?1=True
            refine ol_guard_pure rfl rfl rfl (op_val (v' := .bool true) (op_eqlB Try.underlying4 rfl rfl) (congrArg Value.bool heqb)) ?_
            -- r19.6 t126 := pick  t121 t125 Cfalse
            refine ol_pure rfl (op_pick_t rfl rfl) ?_
            -- r19.7 t127 := move  t126
            refine ol_pure rfl (op_move rfl) ?_
            -- r19.8 t128 := move  t15 ?7=True
            refine ol_guard_pure rfl rfl rfl (op_move rfl) ?_
            -- r19.9 t129 := eql t128 C0 ?7=True
            refine ol_guard_pure rfl rfl rfl (op_eql rfl rfl) ?_
            -- r19.10 t130 := move  t129 ?7=True
            refine ol_guard_pure rfl rfl rfl (op_move rfl) ?_
            refine ol_split (fun h130 => ?_) (fun h130 => ?_)
            · skip
              try simp only [decide_eq_true_eq, decide_eq_false_iff_not, Bool.not_eq_true', Bool.not_eq_false', Bool.not_eq_eq_eq_not, Bool.not_true, Bool.not_false] at h130
              refine ol_guard_no rfl rfl rfl rfl ?_
              refine ol_guard_no rfl rfl rfl rfl ?_
              refine ol_guard_no rfl rfl rfl rfl ?_
              refine ol_guard_no rfl rfl rfl rfl ?_
              refine ol_guard_no rfl rfl rfl rfl ?_
              -- r19.16 t136 := pick  t130 Ctrue t135 ?7=True
              refine ol_guard_pure rfl rfl rfl (op_pick_t rfl rfl) ?_
              -- r19.17 t137 := pick  t127 t136 Cfalse
              refine ol_pure rfl (op_pick_t rfl rfl) ?_
              -- r19.18 t6 := assign  t137
              refine ol_pure rfl (op_assign rfl) ?_
              refine ol_nil ?_
              refine pq_then ?_
              refine cw_ret ?_
              refine ret1 rfl rfl ?_
              -- ret5 h21f h25f h47t h50f h80f h130t
              exact hS.sc_b rfl
            · skip
              try simp only [decide_eq_true_eq, decide_eq_false_iff_not, Bool.not_eq_true', Bool.not_eq_false', Bool.not_eq_eq_eq_not, Bool.not_true, Bool.not_false] at h130
              have h0 : rs[kk].pos.length + rs[kk].neg.length = 0 := by
                have := hlr.1
                split at this
                · assumption
                · omega
              have hw2 := hlr.2 h0
              obtain ⟨hd, hhe⟩ := Int.eq_ofNat_of_zero_le hrk.1.1
              have hhn : hd < (modelI atoms.length rs).length := by rw [modelI_len]; have := hrk.1.2; omega
              obtain ⟨hoW, hcW, _⟩ := hW.int hhn
              have hz2 : (modelI atoms.length rs)[hd] = 2 := by
                rw [hhe, Int.toNat_natCast, List.getD_eq_getElem?_getD, List.getElem?_eq_getElem hhn] at hw2
                exact hw2
              have hrk1 := hrk.1
              -- r19.11 t131 := move  t8 ?10=False
              refine ol_guard_pure rfl rfl rfl (op_move rfl) ?_
              -- r19.12 t132 := move  t13 ?10=False
              refine ol_guard_pure rfl rfl rfl (op_move rfl) ?_
              -- r19.13 t133 := indexAddr [29] t131 t132 ?10=False
              refine ol_guard_pure rfl rfl rfl (op_indexAddr sl_29 rfl rfl (by omega) (by omega) hoW) ?_
              -- r19.14 t134 := load [3] t133 ?10=False
              refine ol_guard_load rfl rfl rfl (op_load1 one_3 rfl (fun w hw => hw.gcell (by rw [hhe]; exact hcW))) hS ?_
              -- r19.15 t135 := eql t134 C2 ?10=False
              refine ol_guard_pure rfl rfl rfl (op_eqlT rfl rfl hz2) ?_
              -- r19.16 t136 := pick  t130 Ctrue t135 ?7=True
              refine ol_guard_pure rfl rfl rfl (op_pick_f rfl rfl) ?_
              -- r19.17 t137 := pick  t127 t136 Cfalse
              refine ol_pure rfl (op_pick_t rfl rfl) ?_
              -- r19.18 t6 := assign  t137
              refine ol_pure rfl (op_assign rfl) ?_
              refine ol_nil ?_
              refine pq_then ?_
              refine cw_ret ?_
              refine ret1 rfl rfl ?_
              -- ret5 h21f h25f h47t h50f h80f h130f
              exact hS.sc_b rfl
      · skip
        try simp only [decide_eq_true_eq, decide_eq_false_iff_not, Bool.not_eq_true', Bool.not_eq_false', Bool.not_eq_eq_eq_not, Bool.not_true, Bool.not_false] at h47
        refine ol_guard_no rfl rfl rfl rfl ?_
        refine ol_guard_no rfl rfl rfl rfl ?_
        -- r9.7 t50 := pick  t47 t49 Cfalse
        refine ol_pure rfl (op_pick_f rfl rfl) ?_
        refine ol_nil ?_
        refine pq_then ?_
        refine cw_cond_f rfl ?_
        refine cw_exit ?_
        refine pq_exit ?_
        refine pq_exit ?_
        refine pq_in_exit ?_
        refine pq_then ?_
        refine cw_seq ?_
        refine cw_seq ?_
        refine cw_region ?_
        -- r13.0 t77 := fieldAddr [25, 1] t3
        refine ol_pure rfl (op_fieldAddr fld_25_1 rfl) ?_
        -- r13.1 t78 := load [23] t77
        refine ol_load rfl (op_load1 one_23 rfl (fun w hw => (hw.bcell (i := 0) rfl).trans rfl)) hS ?_
        -- r13.2 t79 := call len t78
        refine ol_pure rfl (op_len sl_23 rfl rfl) ?_
        -- r13.3 t80 := eql t79 C0
        refine ol_pure rfl (op_eql rfl rfl) ?_
        refine ol_nil ?_
        refine pq_then ?_
        refine cw_cond rfl (fun h80 => ?_) (fun h80 => ?_)
        · skip
          try simp only [decide_eq_true_eq, decide_eq_false_iff_not, Bool.not_eq_true', Bool.not_eq_false', Bool.not_eq_eq_eq_not, Bool.not_true, Bool.not_false] at h80
          refine cw_seq ?_
          refine cw_region ?_
          -- r14.0 t81 := move  t7
          refine ol_pure rfl (op_move rfl) ?_
          -- r14.1 t6 := assign  t81
          refine ol_pure rfl (op_assign rfl) ?_
          refine ol_nil ?_
          refine pq_then ?_
          refine cw_ret ?_
          refine pq_ret ?_
          refine ret1 rfl rfl ?_
          -- ret4 h21f h25f h47f h80t
          exact hS.sc_b rfl
        · skip
          try simp only [decide_eq_true_eq, decide_eq_false_iff_not, Bool.not_eq_true', Bool.not_eq_false', Bool.not_eq_eq_eq_not, Bool.not_true, Bool.not_false] at h80
          obtain ⟨kk, hkk⟩ := Int.eq_ofNat_of_zero_le (Int.emod_nonneg z (show ((rs.length : Nat) : Int) ≠ 0 by omega))
          have hk1 := Int.emod_lt_of_pos z (show (0 : Int) < (rs.length : Nat) by omega)
          have hlt : kk < rs.length := by omega
          have hrk := (hP.rule _ (List.getElem_mem hlt)).1
          obtain ⟨hoa, cs, hcl, ⟨p, q, rfl, hp, hq, hhd⟩, hcells⟩ := h2.el hlt
          obtain ⟨op, cp, hpe, hlp, hmp⟩ := hp.elim
          obtain ⟨oq, cq, hqe, hlq, hmq⟩ := hq.elim
          subst hpe
          subst hqe
          have hple := hp.le
          have hgr2 := (greatG_iff.1 hgr.1).2.2.2 _ (List.getElem_mem hlt)
          have hlr := lies_rule hP hlt
          have heqb : (decide ((((partly rs (startI atoms.length) [⟨(kk : Int), [rs[kk].head]⟩]).2 : Nat) : Int) = 1) == decide ((rs[kk].pos.length : Int) + (rs[kk].neg.length : Nat) = 0)) = true := by
            rw [hlr.1]
            by_cases h0 : rs[kk].pos.length + rs[kk].neg.length = 0
            · rw [if_pos h0, decide_eq_true (by omega), decide_eq_true (by omega)]
              rfl
            · rw [if_neg h0, decide_eq_false (by omega), decide_eq_false (by omega)]
              rfl
          refine cw_skip ?_
          refine pq_then ?_
          refine cw_seq ?_
          refine cw_region ?_
          -- r15.0 t82 := move  t1
          refine ol_pure rfl (op_move rfl) ?_
          -- r15.1 t83 := convert [5, 3] t82
          refine ol_pure rfl (op_conv ⟨_, Try.underlying5⟩ Try.underlying3 rfl (wrap_u8 hz)) ?_
          -- r15.2 t84 := fieldAddr [25, 1] t3
          refine ol_pure rfl (op_fieldAddr fld_25_1 rfl) ?_
          -- r15.3 t85 := load [23] t84
          refine ol_load rfl (op_load1 one_23 rfl (fun w hw => (hw.bcell (i := 0) rfl).trans rfl)) hS ?_
          -- r15.4 t86 := call len t85
          refine ol_pure rfl (op_len sl_23 rfl rfl) ?_
          -- r15.5 t87 := rem t83 t86
          refine ol_pure rfl (op_val (op_rem rfl rfl (by omega) (by omega)) (congrArg (Value.int .i64) hkk)) ?_
          -- r15.6 t12 := assign  t87
          refine ol_pure rfl (op_assign rfl) ?_
          refine ol_nil ?_
          refine pq_then ?_
          refine cw_seq ?_
          refine cw_region ?_
          -- r16.0 t88 := fieldAddr [25, 1] t3
          refine ol_pure rfl (op_fieldAddr fld_25_1 rfl) ?_
          -- r16.1 t89 := load [23] t88
          refine ol_load rfl (op_load1 one_23 rfl (fun w hw => (hw.bcell (i := 0) rfl).trans rfl)) hS ?_
          -- r16.2 t90 := move  t12
          refine ol_pure rfl (op_move rfl) ?_
          -- r16.3 t91 := indexAddr [23] t89 t90
          refine ol_pure rfl (op_indexN sl_23 rfl rfl (by omega) (by assumption)) ?_
          -- r16.4 t92 := fieldAddr [48, 0] t91
          refine ol_pure rfl (op_fieldAddr fld_48_0 rfl) ?_
          -- r16.5 t93 := load [3] t92
          refine ol_load rfl (op_load1 one_3 rfl (fun w hw => hw.gcell0 (hcells 0 _ rfl))) hS ?_
          -- r16.6 t13 := assign  t93
          refine ol_pure rfl (op_assign rfl) ?_
          refine ol_nil ?_
          refine pq_then ?_
          refine cw_seq ?_
          refine cw_region ?_
          -- r17.0 t95 := load [25] t3
          refine ol_load rfl (op_loadN agg_25 rfl (by rfl) (fun w hw k u hk => (hw.bcell (i := 0) rfl).trans hk)) hS ?_
          -- r17.1 t96 := move  t12
          refine ol_pure rfl (op_move rfl) ?_
          -- r17.2 t97 := move  t13
          refine ol_pure rfl (op_move rfl) ?_
          -- r17.3 t98 := buildSlice [29, 1] 0:t97
          refine ol_step rfl (op_buildSlice (el := 3) (is := [0]) (xs := [.tmp 97]) (sz := 1) (cs := [.int .i64 rs[kk].head]) hS rfl rfl (fun w => by kernel_rfl) rfl (by decide)) ?_
          clear hS
          rintro _ w ⟨s98, rfl, hS⟩
          obtain ⟨G98, hl98, hS2, h98⟩ := SS.give' [rs[kk].head] [] EInt.mono hS (by decide) (by exact oneInt _ _ hhd) rfl
          clear hS
          have hS := hS2
          clear hS2
          (try simp only [List.nil_append, List.cons_append] at hS)
          
          -- r17.4 t99 := build [44] 0:t96 1:t98
          refine ol_pure rfl (op_build (is := [0, 1]) (xs := [.tmp 96, .tmp 98]) (v := .agg #[.int .i64 (kk : Nat), .slice s98 1 1]) rfl rfl (fun w => by kernel_rfl)) ?_
          -- r17.5 t100 := buildSlice [28, 1] 0:t99
          refine ol_step rfl (op_buildSlice (el := 44) (is := [0]) (xs := [.tmp 99]) (sz := 2) (cs := [.int .i64 (kk : Nat), .slice s98 1 1]) hS rfl rfl (fun w => by kernel_rfl) rfl (by decide)) ?_
          clear hS
          rintro _ w ⟨s100, rfl, hS⟩
          obtain ⟨G100, hl100, hS2, h100⟩ := SS.give' [(⟨(kk : Int), [rs[kk].head]⟩ : Step)] [] EStep.mono hS (by decide) (by exact (Rows.nil (sz := 2) (E := EStep) _).snoc (x := ⟨(kk : Int), [rs[kk].head]⟩) (cs := [.int .i64 (kk : Nat), .slice s98 1 1]) rfl ⟨_, rfl, h98, by show (-9223372036854775808 : Int) ≤ (kk : Int); omega, by show (kk : Int) ≤ 9223372036854775807; omega⟩) rfl
          clear hS
          have hS := hS2
          clear hS2
          (try simp only [List.nil_append, List.cons_append] at hS)
          
          -- r17.6 t101 := call f19 t95 t100
          refine ol_step rfl (op_call_fr hS cf_19 rfl (judge_Partly_c _ _ hS.hold _ _ atoms rs (h1.mono EAtom.mono ((hl40b.trans hl98).trans hl100)) (h2.mono ERule.mono ((hl40b.trans hl98).trans hl100)) hP _ [⟨(kk : Int), [rs[kk].head]⟩] h100)) ?_
          clear hS
          rintro v101 w ⟨F101, G101, hR101, hF101, hf101, hl101, hS⟩
          obtain ⟨vm101, hv, hB⟩ := hR101
          subst hv
          obtain ⟨oB, cB, rfl, _, _⟩ := hB.elimN (n := atoms.length) (by rw [partly_len]; simp [startI])
          replace hB := hB.mono EInt.mono hf101
          replace hW := ((hW.mono EInt.mono hl98).mono EInt.mono hl100).mono EInt.mono hl101
          -- r17.7 t94 := move  t101
          refine ol_pure rfl (op_move rfl) ?_
          -- r17.8 t102 := extract [0] t94
          refine ol_pure rfl (op_extract (vs := [.slice oB atoms.length cB, .int .i64 ((partly rs (startI atoms.length) [⟨(kk : Int), [rs[kk].head]⟩]).2 : Nat)]) rfl rfl) ?_
          -- r17.9 t103 := extract [1] t94
          refine ol_pure rfl (op_extract (vs := [.slice oB atoms.length cB, .int .i64 ((partly rs (startI atoms.length) [⟨(kk : Int), [rs[kk].head]⟩]).2 : Nat)]) rfl rfl) ?_
          -- r17.10 t14 := assign  t102
          refine ol_pure rfl (op_assign rfl) ?_
          -- r17.11 t15 := assign  t103
          refine ol_pure rfl (op_assign rfl) ?_
          refine ol_nil ?_
          refine pq_then ?_
          refine cw_seq ?_
          refine al_start' hS (hS.take 1) (by kernel_rfl) rfl (fun w hS hT => ?_)
          -- r18.0 t104 := fieldAddr [25, 1] t3
          refine al_take (i := 0) rfl (by kernel_rfl) (by kernel_rfl) (by kernel_rfl) rfl (fun _ _ _ h => h) (op_fieldAddr fld_25_1 rfl) rfl ?_
          -- r18.1 t105 := load [23] t104
          refine al_load (i := 1) rfl (by kernel_rfl) (by kernel_rfl) (by kernel_rfl) rfl (fun _ _ _ h => h) (by exact op_load1 one_23 rfl (fun w hw => (hw.bcell (i := 0) rfl).trans rfl)) rfl hT ?_
          -- r18.2 t106 := move  t12
          refine al_take (i := 2) rfl (by kernel_rfl) (by kernel_rfl) (by kernel_rfl) rfl (fun _ _ _ h => h) (op_move rfl) rfl ?_
          -- r18.3 t107 := indexAddr [23] t105 t106
          refine al_take (i := 3) rfl (by kernel_rfl) (by kernel_rfl) (by kernel_rfl) rfl (fun _ _ _ h => h) (op_indexN sl_23 rfl rfl (by omega) hoa) rfl ?_
          -- r18.4 t108 := fieldAddr [48, 1] t107
          refine al_take (i := 4) rfl (by kernel_rfl) (by kernel_rfl) (by kernel_rfl) rfl (fun _ _ _ h => h) (op_fieldAddr fld_48_1 rfl) rfl ?_
          -- r18.5 t109 := load [29] t108
          refine al_load (i := 5) rfl (by kernel_rfl) (by kernel_rfl) (by kernel_rfl) rfl (fun _ _ _ h => h) (by exact op_load1 one_29 rfl (fun w hw => hw.gcell0 (hcells 1 _ rfl))) rfl hT ?_
          -- r18.6 t110 := call len t109
          refine al_take (i := 6) rfl (by kernel_rfl) (by kernel_rfl) (by kernel_rfl) rfl (fun _ _ _ h => h) (op_len sl_29 rfl rfl) rfl ?_
          -- r18.7 t111 := fieldAddr [25, 1] t3
          refine al_take (i := 7) rfl (by kernel_rfl) (by kernel_rfl) (by kernel_rfl) rfl (fun _ _ _ h => h) (op_fieldAddr fld_25_1 rfl) rfl ?_
          -- r18.8 t112 := load [23] t111
          refine al_load (i := 8) rfl (by kernel_rfl) (by kernel_rfl) (by kernel_rfl) rfl (fun _ _ _ h => h) (by exact op_load1 one_23 rfl (fun w hw => (hw.bcell (i := 0) rfl).trans rfl)) rfl hT ?_
          -- r18.9 t113 := move  t12
          refine al_take (i := 9) rfl (by kernel_rfl) (by kernel_rfl) (by kernel_rfl) rfl (fun _ _ _ h => h) (op_move rfl) rfl ?_
          -- r18.10 t114 := indexAddr [23] t112 t113
          refine al_take (i := 10) rfl (by kernel_rfl) (by kernel_rfl) (by kernel_rfl) rfl (fun _ _ _ h => h) (op_indexN sl_23 rfl rfl (by omega) hoa) rfl ?_
          -- r18.11 t115 := fieldAddr [48, 2] t114
          refine al_take (i := 11) rfl (by kernel_rfl) (by kernel_rfl) (by kernel_rfl) rfl (fun _ _ _ h => h) (op_fieldAddr fld_48_2 rfl) rfl ?_
          -- r18.12 t116 := load [29] t115
          refine al_load (i := 12) rfl (by kernel_rfl) (by kernel_rfl) (by kernel_rfl) rfl (fun _ _ _ h => h) (by exact op_load1 one_29 rfl (fun w hw => hw.gcell0 (hcells 2 _ rfl))) rfl hT ?_
          -- r18.13 t117 := call len t116
          refine al_take (i := 13) rfl (by kernel_rfl) (by kernel_rfl) (by kernel_rfl) rfl (fun _ _ _ h => h) (op_len sl_29 rfl rfl) rfl ?_
          -- r18.14 t118 := add t110 t117
          refine al_take (i := 14) rfl (by kernel_rfl) (by kernel_rfl) (by kernel_rfl) rfl (fun _ _ _ h => h) (op_add rfl rfl (by omega) (by omega)) rfl ?_
          -- r18.15 t119 := eql t118 C0
          refine al_take (i := 15) rfl (by kernel_rfl) (by kernel_rfl) (by kernel_rfl) rfl (fun _ _ _ h => h) (op_eql rfl rfl) rfl ?_
          -- r18.16 t16 := assign  t119
          refine al_take (i := 16) rfl (by kernel_rfl) (by kernel_rfl) (by kernel_rfl) rfl (fun _ _ _ h => h) (op_assign rfl) rfl ?_
          refine al_done (by kernel_rfl) ?_
          refine pq_then ?_
          refine cw_seq ?_
          refine cw_region ?_
          -- r19.0 t120 := move  t7
          refine ol_pure rfl (op_move rfl) ?_
          -- r19.1 t121 := move  t120
          refine ol_pure rfl (op_move rfl) ?_
          -- r19.2 t122 := move  t15 ?1=True
          refine ol_guard_pure rfl rfl rfl (op_move rfl) ?_
          -- r19.3 t123 := eql t122 C1 ?1=True
          refine ol_guard_pure rfl rfl rfl (op_eql rfl rfl) ?_
          -- r19.4 t124 := move  t16 ?1=True
          refine ol_guard_pure rfl rfl rfl (op_move rfl) ?_
          -- r19.5 t125 := eql t123 t124 ?1=True
          refine ol_guard_pure rfl rfl rfl (op_val (v' := .bool true) (op_eqlB Try.underlying4 rfl rfl) (congrArg Value.bool heqb)) ?_
          -- r19.6 t126 := pick  t121 t125 Cfalse
          refine ol_pure rfl (op_pick_t rfl rfl) ?_
          -- r19.7 t127 := move  t126
          refine ol_pure rfl (op_move rfl) ?_
          -- r19.8 t128 := move  t15 ?7=True
          refine ol_guard_pure rfl rfl rfl (op_move rfl) ?_
          -- r19.9 t129 := eql t128 C0 ?7=True
          refine ol_guard_pure rfl rfl rfl (op_eql rfl rfl) ?_
          -- r19.10 t130 := move  t129 ?7=True
          refine ol_guard_pure rfl rfl rfl (op_move rfl) ?_
          refine ol_split (fun h130 => ?_) (fun h130 => ?_)
          · skip
            try simp only [decide_eq_true_eq, decide_eq_false_iff_not, Bool.not_eq_true', Bool.not_eq_false', Bool.not_eq_eq_eq_not, Bool.not_true, Bool.not_false] at h130
            refine ol_guard_no rfl rfl rfl rfl ?_
            refine ol_guard_no rfl rfl rfl rfl ?_
            refine ol_guard_no rfl rfl rfl rfl ?_
            refine ol_guard_no rfl rfl rfl rfl ?_
            refine ol_guard_no rfl rfl rfl rfl ?_
            -- r19.16 t136 := pick  t130 Ctrue t135 ?7=True
            refine ol_guard_pure rfl rfl rfl (op_pick_t rfl rfl) ?_
            -- r19.17 t137 := pick  t127 t136 Cfalse
            refine ol_pure rfl (op_pick_t rfl rfl) ?_
            -- r19.18 t6 := assign  t137
            refine ol_pure rfl (op_assign rfl) ?_
            refine ol_nil ?_
            refine pq_then ?_
            refine cw_ret ?_
            refine ret1 rfl rfl ?_
            -- ret5 h21f h25f h47f h80f h130t
            exact hS.sc_b rfl
          · skip
            try simp only [decide_eq_true_eq, decide_eq_false_iff_not, Bool.not_eq_true', Bool.not_eq_false', Bool.not_eq_eq_eq_not, Bool.not_true, Bool.not_false] at h130
            have h0 : rs[kk].pos.length + rs[kk].neg.length = 0 := by
              have := hlr.1
              split at this
              · assumption
              · omega
            have hw2 := hlr.2 h0
            obtain ⟨hd, hhe⟩ := Int.eq_ofNat_of_zero_le hrk.1.1
            have hhn : hd < (modelI atoms.length rs).length := by rw [modelI_len]; have := hrk.1.2; omega
            obtain ⟨hoW, hcW, _⟩ := hW.int hhn
            have hz2 : (modelI atoms.length rs)[hd] = 2 := by
              rw [hhe, Int.toNat_natCast, List.getD_eq_getElem?_getD, List.getElem?_eq_getElem hhn] at hw2
              exact hw2
            have hrk1 := hrk.1
            -- r19.11 t131 := move  t8 ?10=False
            refine ol_guard_pure rfl rfl rfl (op_move rfl) ?_
            -- r19.12 t132 := move  t13 ?10=False
            refine ol_guard_pure rfl rfl rfl (op_move rfl) ?_
            -- r19.13 t133 := indexAddr [29] t131 t132 ?10=False
            refine ol_guard_pure rfl rfl rfl (op_indexAddr sl_29 rfl rfl (by omega) (by omega) hoW) ?_
            -- r19.14 t134 := load [3] t133 ?10=False
            refine ol_guard_load rfl rfl rfl (op_load1 one_3 rfl (fun w hw => hw.gcell (by rw [hhe]; exact hcW))) hS ?_
            -- r19.15 t135 := eql t134 C2 ?10=False
            refine ol_guard_pure rfl rfl rfl (op_eqlT rfl rfl hz2) ?_
            -- r19.16 t136 := pick  t130 Ctrue t135 ?7=True
            refine ol_guard_pure rfl rfl rfl (op_pick_f rfl rfl) ?_
            -- r19.17 t137 := pick  t127 t136 Cfalse
            refine ol_pure rfl (op_pick_t rfl rfl) ?_
            -- r19.18 t6 := assign  t137
            refine ol_pure rfl (op_assign rfl) ?_
            refine ol_nil ?_
            refine pq_then ?_
            refine cw_ret ?_
            refine ret1 rfl rfl ?_
            -- ret5 h21f h25f h47f h80f h130f
            exact hS.sc_b rfl
end Go.Proofs.Ytbpmkidaoemebaa.K
