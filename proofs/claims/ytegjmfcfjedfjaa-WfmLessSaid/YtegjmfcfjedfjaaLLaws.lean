/-
  The walks of WfmLeast, WfmLess, WfmSides, WfmStable.
  No condition but the premises that each theorem names.
-/
import Derived.Test.YtegjmfcfjedfjaaLBase
namespace Go.Proofs.Ytegjmfcfjedfjaa.K
open Go Go.RowKit
set_option linter.unusedVariables false
set_option linter.unusedSimpArgs false

open Pl

set_option maxRecDepth 100000 in
set_option maxHeartbeats 1000000 in

theorem L17_WfmLeast_c (G : GH) (w0 : World) (hG : Holds G w0) (va vr : Value) (atoms : List (List Cell)) (rs : List Rule) (h1 : RSl 1 EAtom G va atoms) (h2 : RSl 3 ERule G vr rs) (vso vx : Value) (so x : List Bool) (h3 : RSl 1 EBool G vso so) (h4 : RSl 1 EBool G vx x) :
    Calls Try.prog 4 #[.agg #[va, vr], vso, vx] w0 (Sc w0 (.bool true)) := by
  obtain ⟨oA, cA, rfl, hlA, hmA⟩ := h1.elim
  obtain ⟨oR, cR, rfl, hlR, hmR⟩ := h2.elim
  obtain ⟨oS, cS, rfl, hlS, hmS⟩ := h3.elim
  obtain ⟨oX, cX, rfl, hlX, hmX⟩ := h4.elim
  have hleX := h4.le
  refine enter Try.func4 rfl (N := 44) rfl (Nat.le_of_ble_eq_true rfl) ?_
  have hS := SS.init hG
  refine cw_seq ?_
  refine cw_region ?_
  -- r0.0 t3 := box [25] t0
  refine ol_step rfl (op_box hS rfl rfl) ?_
  clear hS
  rintro _ w ⟨b3, rfl, hS⟩
  -- r0.1 t6 := assign  Cfalse
  refine ol_pure rfl (op_assign rfl) ?_
  refine ol_nil ?_
  refine pq_then ?_
  refine cw_seq ?_
  refine cw_region ?_
  -- r1.0 t9 := call f12 
  refine ol_step rfl (op_call_sc hS cf_12 rfl (L17_head_c G _ hS.hold)) ?_
  clear hS
  rintro _ w ⟨rfl, hS⟩
  -- r1.1 t7 := assign  t9
  refine ol_pure rfl (op_assign rfl) ?_
  refine ol_nil ?_
  refine pq_then ?_
  refine cw_seq ?_
  refine cw_seq ?_
  refine cw_region ?_
  -- r2.0 t10 := load [25] t3
  refine ol_load rfl (op_loadN agg_25 rfl (by rfl) (fun w hw k u hk => (hw.bcell (i := 0) rfl).trans hk)) hS ?_
  -- r2.1 t11 := call f13 t10
  refine ol_step rfl (op_call_sc hS cf_13 rfl (L17_may_c G _ hS.hold _ _ atoms rs h1 h2)) ?_
  clear hS
  rintro _ w ⟨rfl, hS⟩
  -- r2.2 t12 := not t11
  refine ol_pure rfl (op_not rfl) ?_
  refine ol_nil ?_
  refine pq_then ?_
  refine cw_cond rfl (fun h12 => ?_) (fun h12 => ?_)
  · skip
    try simp only [decide_eq_true_eq, decide_eq_false_iff_not, Bool.not_eq_true', Bool.not_eq_false', Bool.not_eq_eq_eq_not, Bool.not_true, Bool.not_false] at h12
    refine cw_seq ?_
    refine cw_region ?_
    -- r3.0 t13 := move  t7
    refine ol_pure rfl (op_move rfl) ?_
    -- r3.1 t6 := assign  t13
    refine ol_pure rfl (op_assign rfl) ?_
    refine ol_nil ?_
    refine pq_then ?_
    refine cw_ret ?_
    refine pq_ret ?_
    refine ret1 rfl rfl ?_
    -- ret1 h12t
    exact hS.sc_b rfl
  · skip
    try simp only [decide_eq_true_eq, decide_eq_false_iff_not, Bool.not_eq_true', Bool.not_eq_false', Bool.not_eq_eq_eq_not, Bool.not_true, Bool.not_false] at h12
    have hmay : fewP atoms rs = true ∧ RightP atoms rs := by
      rw [Bool.and_eq_true, rightPB_iff] at h12
      exact h12
    have hP := PrOk.of_may hmay.1 hmay.2
    have hPn := hP.n_le
    have hle := Le.refl G
    refine cw_skip ?_
    refine pq_then ?_
    refine cw_seq ?_
    refine cw_region ?_
    -- r4.0 t14 := load [25] t3
    refine ol_load rfl (op_loadN agg_25 rfl (by rfl) (fun w hw k u hk => (hw.bcell (i := 0) rfl).trans hk)) hS ?_
    -- r4.1 t15 := move  t1
    refine ol_pure rfl (op_move rfl) ?_
    -- r4.2 t16 := call f15 t14 t15
    refine ol_step rfl (op_call_fr hS cf_15 rfl (wfm_Least_c _ _ hS.hold EAtom.mono _ _ atoms rs (h1.mono EAtom.mono hle) (h2.mono ERule.mono hle) hP _ so (h3.mono EBool.mono hle))) ?_
    clear hS
    rintro v16 w ⟨F16, G16, hR16, hF16, hf16, hl16, hS⟩
    obtain ⟨o16, c16, rfl, _, _⟩ := hR16.elimN (gam_len _ _ _)
    have hle := hle.trans hl16
    replace hR16 := hR16.mono EBool.mono hf16
    -- r4.3 t8 := assign  t16
    refine ol_pure rfl (op_assign rfl) ?_
    refine ol_nil ?_
    refine pq_then ?_
    refine cw_seq ?_
    refine cw_region ?_
    -- r5.0 t17 := move  t8
    refine ol_pure rfl (op_move rfl) ?_
    -- r5.1 t18 := call len t17
    refine ol_pure rfl (op_len sl_26 rfl rfl) ?_
    -- r5.2 t19 := fieldAddr [25, 0] t3
    refine ol_pure rfl (op_fieldAddr fld_25_0 rfl) ?_
    -- r5.3 t20 := load [22] t19
    refine ol_load rfl (op_load1 one_22 rfl (fun w hw => (hw.bcell (i := 0) rfl).trans rfl)) hS ?_
    -- r5.4 t21 := call len t20
    refine ol_pure rfl (op_len sl_22 rfl rfl) ?_
    -- r5.5 t22 := eql t18 t21
    refine ol_pure rfl (op_eqlT rfl rfl rfl) ?_
    -- r5.6 t23 := move  t22
    refine ol_pure rfl (op_move rfl) ?_
    -- r5.7 t24 := load [25] t3 ?6=True
    refine ol_guard_load rfl rfl rfl (op_loadN agg_25 rfl (by rfl) (fun w hw k u hk => (hw.bcell (i := 0) rfl).trans hk)) hS ?_
    -- r5.8 t25 := move  t1 ?6=True
    refine ol_guard_pure rfl rfl rfl (op_move rfl) ?_
    -- r5.9 t26 := move  t8 ?6=True
    refine ol_guard_pure rfl rfl rfl (op_move rfl) ?_
    -- r5.10 t27 := call f22 t24 t25 t26 ?6=True
    refine ol_guard_step rfl rfl rfl (op_call_sc hS cf_22 rfl (calls_t (gam_closed hP so) (L17_closed_c _ _ hS.hold _ _ atoms rs (h1.mono EAtom.mono hle) (h2.mono ERule.mono hle) hP _ _ so _ (h3.mono EBool.mono hle) hR16))) ?_
    clear hS
    rintro _ w ⟨rfl, hS⟩
    -- r5.11 t28 := pick  t23 t27 Cfalse
    refine ol_pure rfl (op_pick_t rfl rfl) ?_
    -- r5.12 t29 := move  t28
    refine ol_pure rfl (op_move rfl) ?_
    -- r5.13 t30 := load [25] t3 ?12=True
    refine ol_guard_load rfl rfl rfl (op_loadN agg_25 rfl (by rfl) (fun w hw k u hk => (hw.bcell (i := 0) rfl).trans hk)) hS ?_
    -- r5.14 t31 := move  t1 ?12=True
    refine ol_guard_pure rfl rfl rfl (op_move rfl) ?_
    -- r5.15 t32 := move  t2 ?12=True
    refine ol_guard_pure rfl rfl rfl (op_move rfl) ?_
    -- r5.16 t33 := call f22 t30 t31 t32 ?12=True
    refine ol_guard_step rfl rfl rfl (op_call_sc hS cf_22 rfl (L17_closed_c _ _ hS.hold _ _ atoms rs (h1.mono EAtom.mono hle) (h2.mono ERule.mono hle) hP _ _ so x (h3.mono EBool.mono hle) (h4.mono EBool.mono hle))) ?_
    clear hS
    rintro _ w ⟨rfl, hS⟩
    -- r5.17 t34 := not t33 ?12=True
    refine ol_guard_pure rfl rfl rfl (op_not rfl) ?_
    -- r5.18 t35 := move  t34 ?12=True
    refine ol_guard_pure rfl rfl rfl (op_move rfl) ?_
    refine ol_split (fun h35 => ?_) (fun h35 => ?_)
    · skip
      try simp only [decide_eq_true_eq, decide_eq_false_iff_not, Bool.not_eq_true', Bool.not_eq_false', Bool.not_eq_eq_eq_not, Bool.not_true, Bool.not_false] at h35
      refine ol_guard_no rfl rfl rfl rfl ?_
      refine ol_guard_no rfl rfl rfl rfl ?_
      refine ol_guard_no rfl rfl rfl rfl ?_
      -- r5.22 t39 := pick  t35 Ctrue t38 ?12=True
      refine ol_guard_pure rfl rfl rfl (op_pick_t rfl rfl) ?_
      -- r5.23 t40 := pick  t29 t39 Cfalse
      refine ol_pure rfl (op_pick_t rfl rfl) ?_
      -- r5.24 t41 := move  t40
      refine ol_pure rfl (op_move rfl) ?_
      -- r5.25 t42 := move  t7 ?24=True
      refine ol_guard_pure rfl rfl rfl (op_move rfl) ?_
      -- r5.26 t43 := pick  t41 t42 Cfalse
      refine ol_pure rfl (op_pick_t rfl rfl) ?_
      -- r5.27 t6 := assign  t43
      refine ol_pure rfl (op_assign rfl) ?_
      refine ol_nil ?_
      refine pq_then ?_
      refine cw_ret ?_
      refine ret1 rfl rfl ?_
      -- ret2 h12f h35t
      exact hS.sc_b rfl
    · skip
      try simp only [decide_eq_true_eq, decide_eq_false_iff_not, Bool.not_eq_true', Bool.not_eq_false', Bool.not_eq_eq_eq_not, Bool.not_true, Bool.not_false] at h35
      -- r5.19 t36 := move  t8 ?18=False
      refine ol_guard_pure rfl rfl rfl (op_move rfl) ?_
      -- r5.20 t37 := move  t2 ?18=False
      refine ol_guard_pure rfl rfl rfl (op_move rfl) ?_
      -- r5.21 t38 := call f23 t36 t37 ?18=False
      refine ol_guard_step rfl rfl rfl (op_call_sc hS cf_23 rfl (calls_t (gam_below hP (by simpa using h35)) (L17_below_c _ _ hS.hold _ _ _ x hR16 (h4.mono EBool.mono hle)))) ?_
      clear hS
      rintro _ w ⟨rfl, hS⟩
      -- r5.22 t39 := pick  t35 Ctrue t38 ?12=True
      refine ol_guard_pure rfl rfl rfl (op_pick_f rfl rfl) ?_
      -- r5.23 t40 := pick  t29 t39 Cfalse
      refine ol_pure rfl (op_pick_t rfl rfl) ?_
      -- r5.24 t41 := move  t40
      refine ol_pure rfl (op_move rfl) ?_
      -- r5.25 t42 := move  t7 ?24=True
      refine ol_guard_pure rfl rfl rfl (op_move rfl) ?_
      -- r5.26 t43 := pick  t41 t42 Cfalse
      refine ol_pure rfl (op_pick_t rfl rfl) ?_
      -- r5.27 t6 := assign  t43
      refine ol_pure rfl (op_assign rfl) ?_
      refine ol_nil ?_
      refine pq_then ?_
      refine cw_ret ?_
      refine ret1 rfl rfl ?_
      -- ret2 h12f h35f
      exact hS.sc_b rfl
set_option maxRecDepth 100000 in
set_option maxHeartbeats 1000000 in

theorem L17_WfmLess_c (G : GH) (w0 : World) (hG : Holds G w0) (va vr : Value) (atoms : List (List Cell)) (rs : List Rule) (h1 : RSl 1 EAtom G va atoms) (h2 : RSl 3 ERule G vr rs) (vso vx : Value) (so more : List Bool) (h3 : RSl 1 EBool G vso so) (h4 : RSl 1 EBool G vx more) :
    Calls Try.prog 5 #[.agg #[va, vr], vso, vx] w0 (Sc w0 (.bool true)) := by
  obtain ⟨oA, cA, rfl, hlA, hmA⟩ := h1.elim
  obtain ⟨oR, cR, rfl, hlR, hmR⟩ := h2.elim
  obtain ⟨oS, cS, rfl, hlS, hmS⟩ := h3.elim
  obtain ⟨oX, cX, rfl, hlX, hmX⟩ := h4.elim
  have hleX := h4.le
  refine enter Try.func5 rfl (N := 69) rfl (Nat.le_of_ble_eq_true rfl) ?_
  have hS := SS.init hG
  refine cw_seq ?_
  refine cw_region ?_
  -- r0.0 t3 := box [25] t0
  refine ol_step rfl (op_box hS rfl rfl) ?_
  clear hS
  rintro _ w ⟨b3, rfl, hS⟩
  -- r0.1 t6 := assign  Cfalse
  refine ol_pure rfl (op_assign rfl) ?_
  refine ol_nil ?_
  refine pq_then ?_
  refine cw_seq ?_
  refine cw_region ?_
  -- r1.0 t10 := call f12 
  refine ol_step rfl (op_call_sc hS cf_12 rfl (L17_head_c G _ hS.hold)) ?_
  clear hS
  rintro _ w ⟨rfl, hS⟩
  -- r1.1 t7 := assign  t10
  refine ol_pure rfl (op_assign rfl) ?_
  refine ol_nil ?_
  refine pq_then ?_
  refine cw_seq ?_
  refine cw_seq ?_
  refine cw_region ?_
  -- r2.0 t11 := load [25] t3
  refine ol_load rfl (op_loadN agg_25 rfl (by rfl) (fun w hw k u hk => (hw.bcell (i := 0) rfl).trans hk)) hS ?_
  -- r2.1 t12 := call f13 t11
  refine ol_step rfl (op_call_sc hS cf_13 rfl (L17_may_c G _ hS.hold _ _ atoms rs h1 h2)) ?_
  clear hS
  rintro _ w ⟨rfl, hS⟩
  -- r2.2 t13 := not t12
  refine ol_pure rfl (op_not rfl) ?_
  refine ol_nil ?_
  refine pq_then ?_
  refine cw_cond rfl (fun h13 => ?_) (fun h13 => ?_)
  · skip
    try simp only [decide_eq_true_eq, decide_eq_false_iff_not, Bool.not_eq_true', Bool.not_eq_false', Bool.not_eq_eq_eq_not, Bool.not_true, Bool.not_false] at h13
    refine cw_seq ?_
    refine cw_region ?_
    -- r3.0 t14 := move  t7
    refine ol_pure rfl (op_move rfl) ?_
    -- r3.1 t6 := assign  t14
    refine ol_pure rfl (op_assign rfl) ?_
    refine ol_nil ?_
    refine pq_then ?_
    refine cw_ret ?_
    refine pq_ret ?_
    refine ret1 rfl rfl ?_
    -- ret1 h13t
    exact hS.sc_b rfl
  · skip
    try simp only [decide_eq_true_eq, decide_eq_false_iff_not, Bool.not_eq_true', Bool.not_eq_false', Bool.not_eq_eq_eq_not, Bool.not_true, Bool.not_false] at h13
    have hmay : fewP atoms rs = true ∧ RightP atoms rs := by
      rw [Bool.and_eq_true, rightPB_iff] at h13
      exact h13
    have hP := PrOk.of_may hmay.1 hmay.2
    have hPn := hP.n_le
    have hle := Le.refl G
    refine cw_skip ?_
    refine pq_then ?_
    refine cw_seq ?_
    refine cw_region ?_
    -- r4.0 t15 := fieldAddr [25, 0] t3
    refine ol_pure rfl (op_fieldAddr fld_25_0 rfl) ?_
    -- r4.1 t16 := load [22] t15
    refine ol_load rfl (op_load1 one_22 rfl (fun w hw => (hw.bcell (i := 0) rfl).trans rfl)) hS ?_
    -- r4.2 t17 := call len t16
    refine ol_pure rfl (op_len sl_22 rfl rfl) ?_
    -- r4.3 t18 := makeSlice [26] t17 t17
    refine ol_step rfl (op_makeSlice (n := atoms.length) hS sl_26 el_4 rfl rfl rfl (by omega) (by unfold maxLen; omega)) ?_
    clear hS
    rintro _ w ⟨both, rfl, hS⟩
    -- r4.4 t8 := assign  t18
    refine ol_pure rfl (op_assign rfl) ?_
    refine ol_nil ?_
    refine pq_then ?_
    refine cw_seq ?_
    refine cw_seq ?_
    refine cw_region ?_
    -- r5.0 t9 := assign  C0
    refine ol_pure rfl (op_assign rfl) ?_
    refine ol_nil ?_
    refine pq_then ?_
    refine cw_block ?_
    refine cw_loop (fun e w n => ∃ k : Nat, e = [(1, .slice oS so.length cS), (2, .slice oX more.length cX), (3, .pointer (some ⟨b3, 0, none⟩)), (7, .bool true), (8, .slice both atoms.length atoms.length), (9, .int .i64 (k : Nat))] ∧ k ≤ atoms.length ∧ n = atoms.length - k ∧ SS G w0 G [.row both atoms.length atoms.length 4 1 ((((bothB atoms.length so more)).take k).map Value.bool ++ List.replicate (atoms.length - k) (.bool false)), .blk b3 25 [.slice oA atoms.length cA, .slice oR rs.length cR]] w) _ _ (by exact ⟨0, rfl, Nat.zero_le _, rfl, by simpa using hS⟩) ((Sub.cons rfl (Sub.cons rfl (Sub.cons rfl (Sub.cons rfl (Sub.cons rfl (Sub.cons rfl Sub.nil))))))) ?_
    clear hS
    rintro e w n ⟨k, rfl, hk, rfl, hS⟩
    refine cw_seq ?_
    refine cw_seq ?_
    refine cw_region ?_
    -- r6.0 t19 := move  t9
    refine ol_pure rfl (op_move rfl) ?_
    -- r6.1 t20 := move  t8
    refine ol_pure rfl (op_move rfl) ?_
    -- r6.2 t21 := call len t20
    refine ol_pure rfl (op_len sl_26 rfl rfl) ?_
    -- r6.3 t22 := lss t19 t21
    refine ol_pure rfl (op_lss rfl rfl) ?_
    refine ol_nil ?_
    refine pq_then ?_
    refine cw_cond rfl (fun h22 => ?_) (fun h22 => ?_)
    · skip
      try simp only [decide_eq_true_eq, decide_eq_false_iff_not, Bool.not_eq_true', Bool.not_eq_false', Bool.not_eq_eq_eq_not, Bool.not_true, Bool.not_false] at h22
      have hlt : k < atoms.length := by omega
      have hoa := (hS.news (j := 0) rfl k _ (List.getElem?_eq_getElem (by simp [bothB_len]; omega))).1
      have hbg := bothB_get (so := so) (more := more) hlt
      refine cw_skip ?_
      refine pq_then ?_
      refine cw_seq ?_
      refine cw_block ?_
      refine cw_region ?_
      -- r8.0 t25 := move  t8
      refine ol_pure rfl (op_move rfl) ?_
      -- r8.1 t26 := move  t9
      refine ol_pure rfl (op_move rfl) ?_
      -- r8.2 t27 := move  t9
      refine ol_pure rfl (op_move rfl) ?_
      -- r8.3 t28 := move  t1
      refine ol_pure rfl (op_move rfl) ?_
      -- r8.4 t29 := call len t28
      refine ol_pure rfl (op_len sl_26 rfl rfl) ?_
      -- r8.5 t30 := lss t27 t29
      refine ol_pure rfl (op_lss rfl rfl) ?_
      -- r8.6 t31 := move  t30
      refine ol_pure rfl (op_move rfl) ?_
      refine ol_split (fun h31 => ?_) (fun h31 => ?_)
      · skip
        try simp only [decide_eq_true_eq, decide_eq_false_iff_not, Bool.not_eq_true', Bool.not_eq_false', Bool.not_eq_eq_eq_not, Bool.not_true, Bool.not_false] at h31
        have hs' : k < so.length := by omega
        obtain ⟨hoS, hcS⟩ := h3.bool hs'
        have es : atB so (k : Int) = so[k] := by rw [atB_nat]; simp [hs']
        -- r8.7 t32 := move  t1 ?6=True
        refine ol_guard_pure rfl rfl rfl (op_move rfl) ?_
        -- r8.8 t33 := move  t9 ?6=True
        refine ol_guard_pure rfl rfl rfl (op_move rfl) ?_
        -- r8.9 t34 := indexAddr [26] t32 t33 ?6=True
        refine ol_guard_pure rfl rfl rfl (op_indexN sl_26 rfl rfl (by omega) (by assumption)) ?_
        -- r8.10 t35 := load [4] t34 ?6=True
        refine ol_guard_load rfl rfl rfl (op_load1 one_4 rfl (fun w hw => by first | exact hw.gcell (by assumption) | exact hw.gcell0 (by assumption))) hS ?_
        -- r8.11 t36 := pick  t31 t35 Cfalse
        refine ol_pure rfl (op_pick_t rfl rfl) ?_
        -- r8.12 t37 := move  t36
        refine ol_pure rfl (op_move rfl) ?_
        refine ol_split (fun h37 => ?_) (fun h37 => ?_)
        · skip
          try simp only [decide_eq_true_eq, decide_eq_false_iff_not, Bool.not_eq_true', Bool.not_eq_false', Bool.not_eq_eq_eq_not, Bool.not_true, Bool.not_false] at h37
          refine ol_guard_no rfl rfl rfl rfl ?_
          refine ol_guard_no rfl rfl rfl rfl ?_
          refine ol_guard_no rfl rfl rfl rfl ?_
          refine ol_guard_no rfl rfl rfl rfl ?_
          refine ol_guard_no rfl rfl rfl rfl ?_
          refine ol_guard_undef rfl rfl rfl ?_
          refine ol_guard_undef rfl rfl rfl ?_
          refine ol_guard_undef rfl rfl rfl ?_
          refine ol_guard_undef rfl rfl rfl ?_
          refine ol_guard_no rfl rfl rfl rfl ?_
          -- r8.23 t48 := pick  t37 Ctrue t47
          refine ol_pure rfl (op_pick_t rfl rfl) ?_
          -- r8.24 t49 := indexAddr [26] t25 t26
          refine ol_pure rfl (op_indexN sl_26 rfl rfl (by omega) (by assumption)) ?_
          -- r8.25 _ := store [4] t49 t48
          refine ol_step0  (op_storeR (j := 0) (k := k * 1) hS sz_4 rfl rfl rfl rfl (by simp [bothB_len]; omega)) ?_
          clear hS
          rintro _ w hS; (try simp only [List.nil_append, List.cons_append, List.set] at hS)
          refine ol_nil ?_
          refine pq_in_normal ?_
          refine pq_then ?_
          refine cw_region ?_
          -- r7.0 t23 := move  t9
          refine ol_pure rfl (op_move rfl) ?_
          -- r7.1 t24 := add t23 C1
          refine ol_pure rfl (op_add rfl rfl (by omega) (by omega)) ?_
          -- r7.2 t9 := assign  t24
          refine ol_pure rfl (op_assign rfl) ?_
          refine ol_nil ?_
          -- end of round 1 h13f h22t h31t h37t
          refine pq_loop _ _ (by exact (by rw [fill_set Value.bool (.bool false) (bothB atoms.length so more) atoms.length k true hlt (by rw [hbg, es, h37]; rfl)] at hS; exact ⟨k + 1, rfl, by omega, rfl, hS⟩)) ((Sub.cons rfl (Sub.cons rfl (Sub.cons rfl (Sub.cons rfl (Sub.cons rfl (Sub.cons rfl Sub.nil))))))) (by omega)
        · skip
          try simp only [decide_eq_true_eq, decide_eq_false_iff_not, Bool.not_eq_true', Bool.not_eq_false', Bool.not_eq_eq_eq_not, Bool.not_true, Bool.not_false] at h37
          -- r8.13 t38 := move  t9 ?12=False
          refine ol_guard_pure rfl rfl rfl (op_move rfl) ?_
          -- r8.14 t39 := move  t2 ?12=False
          refine ol_guard_pure rfl rfl rfl (op_move rfl) ?_
          -- r8.15 t40 := call len t39 ?12=False
          refine ol_guard_pure rfl rfl rfl (op_len sl_26 rfl rfl) ?_
          -- r8.16 t41 := lss t38 t40 ?12=False
          refine ol_guard_pure rfl rfl rfl (op_lss rfl rfl) ?_
          -- r8.17 t42 := move  t41 ?12=False
          refine ol_guard_pure rfl rfl rfl (op_move rfl) ?_
          refine ol_split (fun h42 => ?_) (fun h42 => ?_)
          · skip
            try simp only [decide_eq_true_eq, decide_eq_false_iff_not, Bool.not_eq_true', Bool.not_eq_false', Bool.not_eq_eq_eq_not, Bool.not_true, Bool.not_false] at h42
            have hm' : k < more.length := by omega
            obtain ⟨hoX, hcX⟩ := h4.bool hm'
            have em : atB more (k : Int) = more[k] := by rw [atB_nat]; simp [hm']
            -- r8.18 t43 := move  t2 ?17=True
            refine ol_guard_pure rfl rfl rfl (op_move rfl) ?_
            -- r8.19 t44 := move  t9 ?17=True
            refine ol_guard_pure rfl rfl rfl (op_move rfl) ?_
            -- r8.20 t45 := indexAddr [26] t43 t44 ?17=True
            refine ol_guard_pure rfl rfl rfl (op_indexN sl_26 rfl rfl (by omega) (by assumption)) ?_
            -- r8.21 t46 := load [4] t45 ?17=True
            refine ol_guard_load rfl rfl rfl (op_load1 one_4 rfl (fun w hw => by first | exact hw.gcell (by assumption) | exact hw.gcell0 (by assumption))) hS ?_
            -- r8.22 t47 := pick  t42 t46 Cfalse ?12=False
            refine ol_guard_pure rfl rfl rfl (op_pick_t rfl rfl) ?_
            -- r8.23 t48 := pick  t37 Ctrue t47
            refine ol_pure rfl (op_pick_f rfl rfl) ?_
            -- r8.24 t49 := indexAddr [26] t25 t26
            refine ol_pure rfl (op_indexN sl_26 rfl rfl (by omega) (by assumption)) ?_
            -- r8.25 _ := store [4] t49 t48
            refine ol_step0  (op_storeR (j := 0) (k := k * 1) hS sz_4 rfl rfl rfl rfl (by simp [bothB_len]; omega)) ?_
            clear hS
            rintro _ w hS; (try simp only [List.nil_append, List.cons_append, List.set] at hS)
            refine ol_nil ?_
            refine pq_in_normal ?_
            refine pq_then ?_
            refine cw_region ?_
            -- r7.0 t23 := move  t9
            refine ol_pure rfl (op_move rfl) ?_
            -- r7.1 t24 := add t23 C1
            refine ol_pure rfl (op_add rfl rfl (by omega) (by omega)) ?_
            -- r7.2 t9 := assign  t24
            refine ol_pure rfl (op_assign rfl) ?_
            refine ol_nil ?_
            -- end of round 1 h13f h22t h31t h37f h42t
            refine pq_loop _ _ (by exact (by rw [fill_set Value.bool (.bool false) (bothB atoms.length so more) atoms.length k more[k] hlt (by rw [hbg, em]; simp_all)] at hS; exact ⟨k + 1, rfl, by omega, rfl, hS⟩)) ((Sub.cons rfl (Sub.cons rfl (Sub.cons rfl (Sub.cons rfl (Sub.cons rfl (Sub.cons rfl Sub.nil))))))) (by omega)
          · skip
            try simp only [decide_eq_true_eq, decide_eq_false_iff_not, Bool.not_eq_true', Bool.not_eq_false', Bool.not_eq_eq_eq_not, Bool.not_true, Bool.not_false] at h42
            have em : atB more (k : Int) = false := by
              have hm' : more.length ≤ k := by omega
              rw [atB_nat]
              simp [hm']
            refine ol_guard_no rfl rfl rfl rfl ?_
            refine ol_guard_no rfl rfl rfl rfl ?_
            refine ol_guard_no rfl rfl rfl rfl ?_
            refine ol_guard_no rfl rfl rfl rfl ?_
            -- r8.22 t47 := pick  t42 t46 Cfalse ?12=False
            refine ol_guard_pure rfl rfl rfl (op_pick_f rfl rfl) ?_
            -- r8.23 t48 := pick  t37 Ctrue t47
            refine ol_pure rfl (op_pick_f rfl rfl) ?_
            -- r8.24 t49 := indexAddr [26] t25 t26
            refine ol_pure rfl (op_indexN sl_26 rfl rfl (by omega) (by assumption)) ?_
            -- r8.25 _ := store [4] t49 t48
            refine ol_step0  (op_storeR (j := 0) (k := k * 1) hS sz_4 rfl rfl rfl rfl (by simp [bothB_len]; omega)) ?_
            clear hS
            rintro _ w hS; (try simp only [List.nil_append, List.cons_append, List.set] at hS)
            refine ol_nil ?_
            refine pq_in_normal ?_
            refine pq_then ?_
            refine cw_region ?_
            -- r7.0 t23 := move  t9
            refine ol_pure rfl (op_move rfl) ?_
            -- r7.1 t24 := add t23 C1
            refine ol_pure rfl (op_add rfl rfl (by omega) (by omega)) ?_
            -- r7.2 t9 := assign  t24
            refine ol_pure rfl (op_assign rfl) ?_
            refine ol_nil ?_
            -- end of round 1 h13f h22t h31t h37f h42f
            refine pq_loop _ _ (by exact (by rw [fill_set Value.bool (.bool false) (bothB atoms.length so more) atoms.length k false hlt (by rw [hbg, em]; simp_all)] at hS; exact ⟨k + 1, rfl, by omega, rfl, hS⟩)) ((Sub.cons rfl (Sub.cons rfl (Sub.cons rfl (Sub.cons rfl (Sub.cons rfl (Sub.cons rfl Sub.nil))))))) (by omega)
      · skip
        try simp only [decide_eq_true_eq, decide_eq_false_iff_not, Bool.not_eq_true', Bool.not_eq_false', Bool.not_eq_eq_eq_not, Bool.not_true, Bool.not_false] at h31
        have es : atB so (k : Int) = false := by
          have hs' : so.length ≤ k := by omega
          rw [atB_nat]
          simp [hs']
        refine ol_guard_no rfl rfl rfl rfl ?_
        refine ol_guard_no rfl rfl rfl rfl ?_
        refine ol_guard_no rfl rfl rfl rfl ?_
        refine ol_guard_no rfl rfl rfl rfl ?_
        -- r8.11 t36 := pick  t31 t35 Cfalse
        refine ol_pure rfl (op_pick_f rfl rfl) ?_
        -- r8.12 t37 := move  t36
        refine ol_pure rfl (op_move rfl) ?_
        -- r8.13 t38 := move  t9 ?12=False
        refine ol_guard_pure rfl rfl rfl (op_move rfl) ?_
        -- r8.14 t39 := move  t2 ?12=False
        refine ol_guard_pure rfl rfl rfl (op_move rfl) ?_
        -- r8.15 t40 := call len t39 ?12=False
        refine ol_guard_pure rfl rfl rfl (op_len sl_26 rfl rfl) ?_
        -- r8.16 t41 := lss t38 t40 ?12=False
        refine ol_guard_pure rfl rfl rfl (op_lss rfl rfl) ?_
        -- r8.17 t42 := move  t41 ?12=False
        refine ol_guard_pure rfl rfl rfl (op_move rfl) ?_
        refine ol_split (fun h42 => ?_) (fun h42 => ?_)
        · skip
          try simp only [decide_eq_true_eq, decide_eq_false_iff_not, Bool.not_eq_true', Bool.not_eq_false', Bool.not_eq_eq_eq_not, Bool.not_true, Bool.not_false] at h42
          have hm' : k < more.length := by omega
          obtain ⟨hoX, hcX⟩ := h4.bool hm'
          have em : atB more (k : Int) = more[k] := by rw [atB_nat]; simp [hm']
          -- r8.18 t43 := move  t2 ?17=True
          refine ol_guard_pure rfl rfl rfl (op_move rfl) ?_
          -- r8.19 t44 := move  t9 ?17=True
          refine ol_guard_pure rfl rfl rfl (op_move rfl) ?_
          -- r8.20 t45 := indexAddr [26] t43 t44 ?17=True
          refine ol_guard_pure rfl rfl rfl (op_indexN sl_26 rfl rfl (by omega) (by assumption)) ?_
          -- r8.21 t46 := load [4] t45 ?17=True
          refine ol_guard_load rfl rfl rfl (op_load1 one_4 rfl (fun w hw => by first | exact hw.gcell (by assumption) | exact hw.gcell0 (by assumption))) hS ?_
          -- r8.22 t47 := pick  t42 t46 Cfalse ?12=False
          refine ol_guard_pure rfl rfl rfl (op_pick_t rfl rfl) ?_
          -- r8.23 t48 := pick  t37 Ctrue t47
          refine ol_pure rfl (op_pick_f rfl rfl) ?_
          -- r8.24 t49 := indexAddr [26] t25 t26
          refine ol_pure rfl (op_indexN sl_26 rfl rfl (by omega) (by assumption)) ?_
          -- r8.25 _ := store [4] t49 t48
          refine ol_step0  (op_storeR (j := 0) (k := k * 1) hS sz_4 rfl rfl rfl rfl (by simp [bothB_len]; omega)) ?_
          clear hS
          rintro _ w hS; (try simp only [List.nil_append, List.cons_append, List.set] at hS)
          refine ol_nil ?_
          refine pq_in_normal ?_
          refine pq_then ?_
          refine cw_region ?_
          -- r7.0 t23 := move  t9
          refine ol_pure rfl (op_move rfl) ?_
          -- r7.1 t24 := add t23 C1
          refine ol_pure rfl (op_add rfl rfl (by omega) (by omega)) ?_
          -- r7.2 t9 := assign  t24
          refine ol_pure rfl (op_assign rfl) ?_
          refine ol_nil ?_
          -- end of round 1 h13f h22t h31f h42t
          refine pq_loop _ _ (by exact (by rw [fill_set Value.bool (.bool false) (bothB atoms.length so more) atoms.length k more[k] hlt (by rw [hbg, em]; simp_all)] at hS; exact ⟨k + 1, rfl, by omega, rfl, hS⟩)) ((Sub.cons rfl (Sub.cons rfl (Sub.cons rfl (Sub.cons rfl (Sub.cons rfl (Sub.cons rfl Sub.nil))))))) (by omega)
        · skip
          try simp only [decide_eq_true_eq, decide_eq_false_iff_not, Bool.not_eq_true', Bool.not_eq_false', Bool.not_eq_eq_eq_not, Bool.not_true, Bool.not_false] at h42
          have em : atB more (k : Int) = false := by
            have hm' : more.length ≤ k := by omega
            rw [atB_nat]
            simp [hm']
          refine ol_guard_no rfl rfl rfl rfl ?_
          refine ol_guard_no rfl rfl rfl rfl ?_
          refine ol_guard_no rfl rfl rfl rfl ?_
          refine ol_guard_no rfl rfl rfl rfl ?_
          -- r8.22 t47 := pick  t42 t46 Cfalse ?12=False
          refine ol_guard_pure rfl rfl rfl (op_pick_f rfl rfl) ?_
          -- r8.23 t48 := pick  t37 Ctrue t47
          refine ol_pure rfl (op_pick_f rfl rfl) ?_
          -- r8.24 t49 := indexAddr [26] t25 t26
          refine ol_pure rfl (op_indexN sl_26 rfl rfl (by omega) (by assumption)) ?_
          -- r8.25 _ := store [4] t49 t48
          refine ol_step0  (op_storeR (j := 0) (k := k * 1) hS sz_4 rfl rfl rfl rfl (by simp [bothB_len]; omega)) ?_
          clear hS
          rintro _ w hS; (try simp only [List.nil_append, List.cons_append, List.set] at hS)
          refine ol_nil ?_
          refine pq_in_normal ?_
          refine pq_then ?_
          refine cw_region ?_
          -- r7.0 t23 := move  t9
          refine ol_pure rfl (op_move rfl) ?_
          -- r7.1 t24 := add t23 C1
          refine ol_pure rfl (op_add rfl rfl (by omega) (by omega)) ?_
          -- r7.2 t9 := assign  t24
          refine ol_pure rfl (op_assign rfl) ?_
          refine ol_nil ?_
          -- end of round 1 h13f h22t h31f h42f
          refine pq_loop _ _ (by exact (by rw [fill_set Value.bool (.bool false) (bothB atoms.length so more) atoms.length k false hlt (by rw [hbg, em]; simp_all)] at hS; exact ⟨k + 1, rfl, by omega, rfl, hS⟩)) ((Sub.cons rfl (Sub.cons rfl (Sub.cons rfl (Sub.cons rfl (Sub.cons rfl (Sub.cons rfl Sub.nil))))))) (by omega)
    · skip
      try simp only [decide_eq_true_eq, decide_eq_false_iff_not, Bool.not_eq_true', Bool.not_eq_false', Bool.not_eq_eq_eq_not, Bool.not_true, Bool.not_false] at h22
      have hk0 : k = (bothB atoms.length so more).length := by rw [bothB_len]; omega
      have hbl : atoms.length = (bothB atoms.length so more).length := by rw [bothB_len]
      rw [hk0, Nat.sub_eq_zero_of_le (by omega), List.replicate_zero, List.append_nil, List.take_length] at hS
      obtain ⟨F2, G1, hBo, hF2, hf2, hl2, hS2⟩ := SS.give_fr (bothB atoms.length so more) [] EBool.mono hS (by decide) (Rows.bools _) hbl
      replace hBo := hBo.mono EBool.mono hf2
      clear hS
      have hS := hS2
      clear hS2
      simp only [List.nil_append] at hS
      have hle := hl2
      refine cw_exit ?_
      refine pq_exit ?_
      refine pq_exit ?_
      refine pq_in_exit ?_
      refine pq_then ?_
      refine cw_seq ?_
      refine al_start' hS (hS.take 1) (by kernel_rfl) rfl (fun w hS hT => ?_)
      -- r9.0 t50 := load [25] t3
      refine al_load (i := 0) rfl (by kernel_rfl) (by kernel_rfl) (by kernel_rfl) rfl (fun _ _ _ h => h) (by exact op_loadN agg_25 rfl (by rfl) (fun w hw k u hk => (hw.bcell (i := 0) rfl).trans hk)) rfl hT ?_
      -- r9.1 t51 := move  t8
      refine al_take (i := 1) rfl (by kernel_rfl) (by kernel_rfl) (by kernel_rfl) rfl (fun _ _ _ h => h) (op_move rfl) rfl ?_
      -- r9.3 t53 := load [25] t3
      refine al_load (i := 3) rfl (by kernel_rfl) (by kernel_rfl) (by kernel_rfl) rfl (fun _ _ _ h => h) (by exact op_loadN agg_25 rfl (by rfl) (fun w hw k u hk => (hw.bcell (i := 0) rfl).trans hk)) rfl hT ?_
      -- r9.4 t54 := move  t1
      refine al_take (i := 4) rfl (by kernel_rfl) (by kernel_rfl) (by kernel_rfl) rfl (fun _ _ _ h => h) (op_move rfl) rfl ?_
      refine al_step (i := 2) rfl (by kernel_rfl) rfl (op_call_fr hS cf_15 rfl (wfm_Least_c _ _ hS.hold EAtom.mono _ _ atoms rs (h1.mono EAtom.mono hle) (h2.mono ERule.mono hle) hP _ _ hBo)) ?_
      clear hS
      rintro v52 w ⟨F52, G52, hR52, hF52, hf52, hl52, hS⟩
      obtain ⟨o52, c52, rfl, _, _⟩ := hR52.elimN (gam_len _ _ _)
      have hle := hle.trans hl52
      replace hBo := hBo.mono EBool.mono hl52
      replace hR52 := hR52.mono EBool.mono hf52
      have hq52 := hl52
      have hT := hT.back hS (by first | exact Le.refl _ | assumption) (fun x hx => by try simp only [List.take_succ_cons, List.take_zero, List.mem_cons, List.not_mem_nil, or_false] at hx; (rcases hx with rfl) <;> simp)
      refine ⟨fun _ _ => hT, ?_⟩
      refine al_step (i := 5) rfl (by kernel_rfl) rfl (op_call_fr hS cf_15 rfl (wfm_Least_c _ _ hS.hold EAtom.mono _ _ atoms rs (h1.mono EAtom.mono hle) (h2.mono ERule.mono hle) hP _ so (h3.mono EBool.mono hle))) ?_
      clear hS
      rintro v55 w ⟨F55, G55, hR55, hF55, hf55, hl55, hS⟩
      obtain ⟨o55, c55, rfl, _, _⟩ := hR55.elimN (gam_len _ _ _)
      have hle := hle.trans hl55
      replace hBo := hBo.mono EBool.mono hl55
      replace hR52 := hR52.mono EBool.mono hl55
      replace hR55 := hR55.mono EBool.mono hf55
      have hq55 := hq52.trans hl55
      have hT := hT.back hS (by first | exact Le.refl _ | assumption) (fun x hx => by try simp only [List.take_succ_cons, List.take_zero, List.mem_cons, List.not_mem_nil, or_false] at hx; (rcases hx with rfl) <;> simp)
      refine ⟨fun _ _ => hT, ?_⟩
      refine al_step (i := 6) rfl (by kernel_rfl) rfl (op_call_sc hS cf_23 rfl (calls_t (less1 hP so more) (L17_below_c _ _ hS.hold _ _ _ _ hR52 hR55))) ?_
      clear hS
      rintro _ w ⟨rfl, hS⟩
      have hT := hT.back hS (by first | exact Le.refl _ | assumption) (fun x hx => by try simp only [List.take_succ_cons, List.take_zero, List.mem_cons, List.not_mem_nil, or_false] at hx; (rcases hx with rfl) <;> simp)
      refine ⟨fun _ _ => hT, ?_⟩
      -- r9.7 t57 := move  t56
      refine al_take (i := 7) rfl (by kernel_rfl) (by kernel_rfl) (by kernel_rfl) rfl (fun _ _ _ h => h) (op_move rfl) rfl ?_
      -- r9.8 t58 := load [25] t3 ?7=True
      refine al_gload (i := 8) rfl (by kernel_rfl) (by kernel_rfl) (by kernel_rfl) rfl rfl rfl (fun _ _ _ h => h) (by exact op_loadN agg_25 rfl (by rfl) (fun w hw k u hk => (hw.bcell (i := 0) rfl).trans hk)) rfl hT ?_
      -- r9.9 t59 := move  t8 ?7=True
      refine al_gtake (i := 9) rfl (by kernel_rfl) (by kernel_rfl) (by kernel_rfl) rfl rfl rfl (fun _ _ _ h => h) (op_move rfl) rfl ?_
      -- r9.11 t61 := load [25] t3 ?7=True
      refine al_gload (i := 11) rfl (by kernel_rfl) (by kernel_rfl) (by kernel_rfl) rfl rfl rfl (fun _ _ _ h => h) (by exact op_loadN agg_25 rfl (by rfl) (fun w hw k u hk => (hw.bcell (i := 0) rfl).trans hk)) rfl hT ?_
      -- r9.12 t62 := move  t2 ?7=True
      refine al_gtake (i := 12) rfl (by kernel_rfl) (by kernel_rfl) (by kernel_rfl) rfl rfl rfl (fun _ _ _ h => h) (op_move rfl) rfl ?_
      refine al_gstep (i := 10) rfl (by kernel_rfl) rfl rfl rfl (op_call_fr hS cf_15 rfl (wfm_Least_c _ _ hS.hold EAtom.mono _ _ atoms rs (h1.mono EAtom.mono hle) (h2.mono ERule.mono hle) hP _ _ hBo)) ?_
      clear hS
      rintro v60 w ⟨F60, G60, hR60, hF60, hf60, hl60, hS⟩
      obtain ⟨o60, c60, rfl, _, _⟩ := hR60.elimN (gam_len _ _ _)
      have hle := hle.trans hl60
      replace hR60 := hR60.mono EBool.mono hf60
      have hq60 := hq55.trans hl60
      have hT := hT.back hS (by first | exact Le.refl _ | assumption) (fun x hx => by try simp only [List.take_succ_cons, List.take_zero, List.mem_cons, List.not_mem_nil, or_false] at hx; (rcases hx with rfl) <;> simp)
      refine ⟨fun _ _ => hT, ?_⟩
      refine al_gstep (i := 13) rfl (by kernel_rfl) rfl rfl rfl (op_call_fr hS cf_15 rfl (wfm_Least_c _ _ hS.hold EAtom.mono _ _ atoms rs (h1.mono EAtom.mono hle) (h2.mono ERule.mono hle) hP _ more (h4.mono EBool.mono hle))) ?_
      clear hS
      rintro v63 w ⟨F63, G63, hR63, hF63, hf63, hl63, hS⟩
      obtain ⟨o63, c63, rfl, _, _⟩ := hR63.elimN (gam_len _ _ _)
      have hle := hle.trans hl63
      replace hR60 := hR60.mono EBool.mono hl63
      replace hR63 := hR63.mono EBool.mono hf63
      have hq63 := hq60.trans hl63
      have hT := hT.back hS (by first | exact Le.refl _ | assumption) (fun x hx => by try simp only [List.take_succ_cons, List.take_zero, List.mem_cons, List.not_mem_nil, or_false] at hx; (rcases hx with rfl) <;> simp)
      refine ⟨fun _ _ => hT, ?_⟩
      refine al_gstep (i := 14) rfl (by kernel_rfl) rfl rfl rfl (op_call_sc hS cf_23 rfl (calls_t (less2 hP so more) (L17_below_c _ _ hS.hold _ _ _ _ hR60 hR63))) ?_
      clear hS
      rintro _ w ⟨rfl, hS⟩
      have hT := hT.back hS (by first | exact Le.refl _ | assumption) (fun x hx => by try simp only [List.take_succ_cons, List.take_zero, List.mem_cons, List.not_mem_nil, or_false] at hx; (rcases hx with rfl) <;> simp)
      refine ⟨fun _ _ => hT, ?_⟩
      -- r9.15 t65 := pick  t57 t64 Cfalse
      refine al_take (i := 15) rfl (by kernel_rfl) (by kernel_rfl) (by kernel_rfl) rfl (fun _ _ _ h => h) (op_pick_t rfl rfl) rfl ?_
      -- r9.16 t66 := move  t65
      refine al_take (i := 16) rfl (by kernel_rfl) (by kernel_rfl) (by kernel_rfl) rfl (fun _ _ _ h => h) (op_move rfl) rfl ?_
      -- r9.17 t67 := move  t7 ?16=True
      refine al_gtake (i := 17) rfl (by kernel_rfl) (by kernel_rfl) (by kernel_rfl) rfl rfl rfl (fun _ _ _ h => h) (op_move rfl) rfl ?_
      -- r9.18 t68 := pick  t66 t67 Cfalse
      refine al_take (i := 18) rfl (by kernel_rfl) (by kernel_rfl) (by kernel_rfl) rfl (fun _ _ _ h => h) (op_pick_t rfl rfl) rfl ?_
      -- r9.19 t6 := assign  t68
      refine al_take (i := 19) rfl (by kernel_rfl) (by kernel_rfl) (by kernel_rfl) rfl (fun _ _ _ h => h) (op_assign rfl) rfl ?_
      refine al_done (by kernel_rfl) ?_
      refine pq_then ?_
      refine cw_ret ?_
      refine ret1 rfl rfl ?_
      -- ret2 h13f h22f
      exact hS.sc_b rfl
set_option maxRecDepth 100000 in
set_option maxHeartbeats 1000000 in

theorem L17_WfmSides_c (G : GH) (w0 : World) (hG : Holds G w0) (va vr : Value) (atoms : List (List Cell)) (rs : List Rule) (h1 : RSl 1 EAtom G va atoms) (h2 : RSl 3 ERule G vr rs)  :
    Calls Try.prog 6 #[.agg #[va, vr]] w0 (Sc w0 (.bool true)) := by
  obtain ⟨oA, cA, rfl, hlA, hmA⟩ := h1.elim
  obtain ⟨oR, cR, rfl, hlR, hmR⟩ := h2.elim
  refine enter Try.func6 rfl (N := 67) rfl (Nat.le_of_ble_eq_true rfl) ?_
  have hS := SS.init hG
  refine cw_seq ?_
  refine cw_region ?_
  -- r0.0 t1 := box [25] t0
  refine ol_step rfl (op_box hS rfl rfl) ?_
  clear hS
  rintro _ w ⟨b1, rfl, hS⟩
  -- r0.1 t2 := assign  Cfalse
  refine ol_pure rfl (op_assign rfl) ?_
  refine ol_nil ?_
  refine pq_then ?_
  refine cw_seq ?_
  refine cw_region ?_
  -- r1.0 t8 := call f12 
  refine ol_step rfl (op_call_sc hS cf_12 rfl (L17_head_c G _ hS.hold)) ?_
  clear hS
  rintro _ w ⟨rfl, hS⟩
  -- r1.1 t3 := assign  t8
  refine ol_pure rfl (op_assign rfl) ?_
  refine ol_nil ?_
  refine pq_then ?_
  refine cw_seq ?_
  refine cw_seq ?_
  refine cw_region ?_
  -- r2.0 t9 := load [25] t1
  refine ol_load rfl (op_loadN agg_25 rfl (by rfl) (fun w hw k u hk => (hw.bcell (i := 0) rfl).trans hk)) hS ?_
  -- r2.1 t10 := call f13 t9
  refine ol_step rfl (op_call_sc hS cf_13 rfl (L17_may_c G _ hS.hold _ _ atoms rs h1 h2)) ?_
  clear hS
  rintro _ w ⟨rfl, hS⟩
  -- r2.2 t11 := not t10
  refine ol_pure rfl (op_not rfl) ?_
  refine ol_nil ?_
  refine pq_then ?_
  refine cw_cond rfl (fun h11 => ?_) (fun h11 => ?_)
  · skip
    try simp only [decide_eq_true_eq, decide_eq_false_iff_not, Bool.not_eq_true', Bool.not_eq_false', Bool.not_eq_eq_eq_not, Bool.not_true, Bool.not_false] at h11
    refine cw_seq ?_
    refine cw_region ?_
    -- r3.0 t12 := move  t3
    refine ol_pure rfl (op_move rfl) ?_
    -- r3.1 t2 := assign  t12
    refine ol_pure rfl (op_assign rfl) ?_
    refine ol_nil ?_
    refine pq_then ?_
    refine cw_ret ?_
    refine pq_ret ?_
    refine ret1 rfl rfl ?_
    -- ret1 h11t
    exact hS.sc_b rfl
  · skip
    try simp only [decide_eq_true_eq, decide_eq_false_iff_not, Bool.not_eq_true', Bool.not_eq_false', Bool.not_eq_eq_eq_not, Bool.not_true, Bool.not_false] at h11
    have hmay : fewP atoms rs = true ∧ RightP atoms rs := by
      rw [Bool.and_eq_true, rightPB_iff] at h11
      exact h11
    have hP := PrOk.of_may hmay.1 hmay.2
    have hPn := hP.n_le
    have hle := Le.refl G
    refine cw_skip ?_
    refine pq_then ?_
    refine cw_seq ?_
    refine cw_region ?_
    -- r4.0 t13 := load [25] t1
    refine ol_load rfl (op_loadN agg_25 rfl (by rfl) (fun w hw k u hk => (hw.bcell (i := 0) rfl).trans hk)) hS ?_
    -- r4.1 t14 := call f18 t13
    refine ol_step rfl (op_call_fr hS cf_18 rfl (wfm_Model_c _ _ hS.hold EAtom.mono _ _ atoms rs (h1.mono EAtom.mono hle) (h2.mono ERule.mono hle) hP)) ?_
    clear hS
    rintro v14 w ⟨F14, G14, hR14, hF14, hf14, hl14, hS⟩
    obtain ⟨o14, c14, rfl, _, _⟩ := hR14.elimN (modelI_len _ _)
    have hle := hle.trans hl14
    replace hR14 := hR14.mono EInt.mono hf14
    -- r4.2 t4 := assign  t14
    refine ol_pure rfl (op_assign rfl) ?_
    refine ol_nil ?_
    refine pq_then ?_
    refine cw_seq ?_
    refine cw_region ?_
    -- r5.0 t16 := load [25] t1
    refine ol_load rfl (op_loadN agg_25 rfl (by rfl) (fun w hw k u hk => (hw.bcell (i := 0) rfl).trans hk)) hS ?_
    -- r5.1 t17 := move  t4
    refine ol_pure rfl (op_move rfl) ?_
    -- r5.2 t18 := call f24 t16 t17
    refine ol_step rfl (op_call_fr hS cf_24 rfl (L17_sides_c _ _ hS.hold _ _ atoms rs (h1.mono EAtom.mono hle) (h2.mono ERule.mono hle) hP _ (modelI atoms.length rs) hR14)) ?_
    clear hS
    rintro v18 w ⟨F18, G18, hR18, hF18, hf18, hl18, hS⟩
    obtain ⟨vl, vh, rfl, hLo, hHi⟩ := hR18
    obtain ⟨oL, cL, rfl, _, _⟩ := hLo.elimN (setB_length _ _ _)
    obtain ⟨oH, cH, rfl, _, _⟩ := hHi.elimN (by simp [hiB, setB_length] : (hiB (modelI atoms.length rs) atoms.length).length = atoms.length)
    replace hLo := hLo.mono EBool.mono hf18
    replace hHi := hHi.mono EBool.mono hf18
    have hle := hle.trans hl18
    replace hR14 := hR14.mono EInt.mono hl18
    -- r5.3 t15 := move  t18
    refine ol_pure rfl (op_move rfl) ?_
    -- r5.4 t19 := extract [0] t15
    refine ol_pure rfl (op_extract rfl rfl) ?_
    -- r5.5 t20 := extract [1] t15
    refine ol_pure rfl (op_extract rfl rfl) ?_
    -- r5.6 t5 := assign  t19
    refine ol_pure rfl (op_assign rfl) ?_
    -- r5.7 t6 := assign  t20
    refine ol_pure rfl (op_assign rfl) ?_
    refine ol_nil ?_
    refine pq_then ?_
    refine cw_seq ?_
    refine cw_seq ?_
    refine cw_region ?_
    -- r6.0 t21 := move  t4
    refine ol_pure rfl (op_move rfl) ?_
    -- r6.1 t22 := call len t21
    refine ol_pure rfl (op_len sl_27 rfl rfl) ?_
    -- r6.2 t23 := fieldAddr [25, 0] t1
    refine ol_pure rfl (op_fieldAddr fld_25_0 rfl) ?_
    -- r6.3 t24 := load [22] t23
    refine ol_load rfl (op_load1 one_22 rfl (fun w hw => (hw.bcell (i := 0) rfl).trans rfl)) hS ?_
    -- r6.4 t25 := call len t24
    refine ol_pure rfl (op_len sl_22 rfl rfl) ?_
    -- r6.5 t26 := neq t22 t25
    refine ol_pure rfl (op_neqF rfl rfl rfl) ?_
    refine ol_nil ?_
    refine pq_then ?_
    refine cw_cond_f rfl ?_
    refine cw_skip ?_
    refine pq_then ?_
    refine cw_seq ?_
    refine cw_seq ?_
    refine cw_region ?_
    -- r8.0 t7 := assign  C0
    refine ol_pure rfl (op_assign rfl) ?_
    refine ol_nil ?_
    refine pq_then ?_
    refine cw_block ?_
    refine cw_loop (fun e w n => ∃ k : Nat, e = [(1, .pointer (some ⟨b1, 0, none⟩)), (3, .bool true), (4, .slice o14 atoms.length c14), (5, .slice oL atoms.length cL), (6, .slice oH atoms.length cH), (7, .int .i64 (k : Nat))] ∧ k ≤ atoms.length ∧ n = atoms.length - k ∧ SS G w0 G18 [.blk b1 25 [.slice oA atoms.length cA, .slice oR rs.length cR]] w) _ _ (by exact ⟨0, rfl, Nat.zero_le _, rfl, hS⟩) ((Sub.cons rfl (Sub.cons rfl (Sub.cons rfl (Sub.cons rfl (Sub.cons rfl (Sub.cons rfl Sub.nil))))))) ?_
    clear hS
    rintro e w n ⟨k, rfl, hk, rfl, hS⟩
    refine cw_seq ?_
    refine cw_seq ?_
    refine cw_region ?_
    -- r9.0 t27 := move  t7
    refine ol_pure rfl (op_move rfl) ?_
    -- r9.1 t28 := move  t4
    refine ol_pure rfl (op_move rfl) ?_
    -- r9.2 t29 := call len t28
    refine ol_pure rfl (op_len sl_27 rfl rfl) ?_
    -- r9.3 t30 := lss t27 t29
    refine ol_pure rfl (op_lss rfl rfl) ?_
    refine ol_nil ?_
    refine pq_then ?_
    refine cw_cond rfl (fun h30 => ?_) (fun h30 => ?_)
    · skip
      try simp only [decide_eq_true_eq, decide_eq_false_iff_not, Bool.not_eq_true', Bool.not_eq_false', Bool.not_eq_eq_eq_not, Bool.not_true, Bool.not_false] at h30
      have hlt : k < atoms.length := by omega
      have hlt' : k < (modelI atoms.length rs).length := by rw [modelI_len]; exact hlt
      obtain ⟨hoM, hcM, _⟩ := hR14.int hlt'
      have hmr := modelI_range (List.getElem_mem hlt')
      refine cw_skip ?_
      refine pq_then ?_
      refine cw_seq ?_
      refine cw_block ?_
      refine cw_seq ?_
      refine cw_region ?_
      -- r11.0 t33 := move  t4
      refine ol_pure rfl (op_move rfl) ?_
      -- r11.1 t34 := move  t7
      refine ol_pure rfl (op_move rfl) ?_
      -- r11.2 t35 := indexAddr [27] t33 t34
      refine ol_pure rfl (op_indexN sl_27 rfl rfl (by omega) (by assumption)) ?_
      -- r11.3 t36 := load [3] t35
      refine ol_load rfl (op_load1 one_3 rfl (fun w hw => by first | exact hw.gcell (by assumption) | exact hw.gcell0 (by assumption))) hS ?_
      -- r11.4 t37 := neq t36 C0
      refine ol_pure rfl (op_neq rfl rfl) ?_
      -- r11.5 t38 := move  t37
      refine ol_pure rfl (op_move rfl) ?_
      refine ol_split (fun h38 => ?_) (fun h38 => ?_)
      · skip
        try simp only [decide_eq_true_eq, decide_eq_false_iff_not, Bool.not_eq_true', Bool.not_eq_false', Bool.not_eq_eq_eq_not, Bool.not_true, Bool.not_false] at h38
        -- r11.6 t39 := move  t4 ?5=True
        refine ol_guard_pure rfl rfl rfl (op_move rfl) ?_
        -- r11.7 t40 := move  t7 ?5=True
        refine ol_guard_pure rfl rfl rfl (op_move rfl) ?_
        -- r11.8 t41 := indexAddr [27] t39 t40 ?5=True
        refine ol_guard_pure rfl rfl rfl (op_indexN sl_27 rfl rfl (by omega) (by assumption)) ?_
        -- r11.9 t42 := load [3] t41 ?5=True
        refine ol_guard_load rfl rfl rfl (op_load1 one_3 rfl (fun w hw => by first | exact hw.gcell (by assumption) | exact hw.gcell0 (by assumption))) hS ?_
        -- r11.10 t43 := neq t42 C1 ?5=True
        refine ol_guard_pure rfl rfl rfl (op_neq rfl rfl) ?_
        -- r11.11 t44 := pick  t38 t43 Cfalse
        refine ol_pure rfl (op_pick_t rfl rfl) ?_
        -- r11.12 t45 := move  t44
        refine ol_pure rfl (op_move rfl) ?_
        refine ol_split (fun h45 => ?_) (fun h45 => ?_)
        · skip
          try simp only [decide_eq_true_eq, decide_eq_false_iff_not, Bool.not_eq_true', Bool.not_eq_false', Bool.not_eq_eq_eq_not, Bool.not_true, Bool.not_false] at h45
          -- r11.13 t46 := move  t4 ?12=True
          refine ol_guard_pure rfl rfl rfl (op_move rfl) ?_
          -- r11.14 t47 := move  t7 ?12=True
          refine ol_guard_pure rfl rfl rfl (op_move rfl) ?_
          -- r11.15 t48 := indexAddr [27] t46 t47 ?12=True
          refine ol_guard_pure rfl rfl rfl (op_indexN sl_27 rfl rfl (by omega) (by assumption)) ?_
          -- r11.16 t49 := load [3] t48 ?12=True
          refine ol_guard_load rfl rfl rfl (op_load1 one_3 rfl (fun w hw => by first | exact hw.gcell (by assumption) | exact hw.gcell0 (by assumption))) hS ?_
          -- r11.17 t50 := neq t49 C2 ?12=True
          refine ol_guard_pure rfl rfl rfl (op_neq rfl rfl) ?_
          -- r11.18 t51 := pick  t45 t50 Cfalse
          refine ol_pure rfl (op_pick_t rfl rfl) ?_
          refine ol_nil ?_
          refine pq_then ?_
          refine cw_cond rfl (fun h51 => ?_) (fun h51 => ?_)
          · skip
            try simp only [decide_eq_true_eq, decide_eq_false_iff_not, Bool.not_eq_true', Bool.not_eq_false', Bool.not_eq_eq_eq_not, Bool.not_true, Bool.not_false] at h51
            refine cw_seq ?_
            refine cw_region ?_
            -- r12.0 t2 := assign  Cfalse
            refine ol_pure rfl (op_assign rfl) ?_
            refine ol_nil ?_
            refine pq_then ?_
            refine cw_ret ?_
            refine pq_in_ret ?_
            refine pq_ret ?_
            refine pq_ret ?_
            refine pq_in_ret ?_
            refine pq_ret ?_
            refine ret1 rfl rfl ?_
            -- ret3 h11f h30t h38t h45t h51t
            exact (by omega : False).elim
          · skip
            try simp only [decide_eq_true_eq, decide_eq_false_iff_not, Bool.not_eq_true', Bool.not_eq_false', Bool.not_eq_eq_eq_not, Bool.not_true, Bool.not_false] at h51
            refine cw_skip ?_
            refine pq_in_normal ?_
            refine pq_then ?_
            refine cw_region ?_
            -- r10.0 t31 := move  t7
            refine ol_pure rfl (op_move rfl) ?_
            -- r10.1 t32 := add t31 C1
            refine ol_pure rfl (op_add rfl rfl (by omega) (by omega)) ?_
            -- r10.2 t7 := assign  t32
            refine ol_pure rfl (op_assign rfl) ?_
            refine ol_nil ?_
            -- end of round 1 h11f h30t h38t h45t h51f
            refine pq_loop _ _ (by exact ⟨k + 1, rfl, by omega, rfl, hS⟩) ((Sub.cons rfl (Sub.cons rfl (Sub.cons rfl (Sub.cons rfl (Sub.cons rfl (Sub.cons rfl Sub.nil))))))) (by omega)
        · skip
          try simp only [decide_eq_true_eq, decide_eq_false_iff_not, Bool.not_eq_true', Bool.not_eq_false', Bool.not_eq_eq_eq_not, Bool.not_true, Bool.not_false] at h45
          refine ol_guard_no rfl rfl rfl rfl ?_
          refine ol_guard_no rfl rfl rfl rfl ?_
          refine ol_guard_no rfl rfl rfl rfl ?_
          refine ol_guard_no rfl rfl rfl rfl ?_
          refine ol_guard_no rfl rfl rfl rfl ?_
          -- r11.18 t51 := pick  t45 t50 Cfalse
          refine ol_pure rfl (op_pick_f rfl rfl) ?_
          refine ol_nil ?_
          refine pq_then ?_
          refine cw_cond_f rfl ?_
          refine cw_skip ?_
          refine pq_in_normal ?_
          refine pq_then ?_
          refine cw_region ?_
          -- r10.0 t31 := move  t7
          refine ol_pure rfl (op_move rfl) ?_
          -- r10.1 t32 := add t31 C1
          refine ol_pure rfl (op_add rfl rfl (by omega) (by omega)) ?_
          -- r10.2 t7 := assign  t32
          refine ol_pure rfl (op_assign rfl) ?_
          refine ol_nil ?_
          -- end of round 1 h11f h30t h38t h45f
          refine pq_loop _ _ (by exact ⟨k + 1, rfl, by omega, rfl, hS⟩) ((Sub.cons rfl (Sub.cons rfl (Sub.cons rfl (Sub.cons rfl (Sub.cons rfl (Sub.cons rfl Sub.nil))))))) (by omega)
      · skip
        try simp only [decide_eq_true_eq, decide_eq_false_iff_not, Bool.not_eq_true', Bool.not_eq_false', Bool.not_eq_eq_eq_not, Bool.not_true, Bool.not_false] at h38
        refine ol_guard_no rfl rfl rfl rfl ?_
        refine ol_guard_no rfl rfl rfl rfl ?_
        refine ol_guard_no rfl rfl rfl rfl ?_
        refine ol_guard_no rfl rfl rfl rfl ?_
        refine ol_guard_no rfl rfl rfl rfl ?_
        -- r11.11 t44 := pick  t38 t43 Cfalse
        refine ol_pure rfl (op_pick_f rfl rfl) ?_
        -- r11.12 t45 := move  t44
        refine ol_pure rfl (op_move rfl) ?_
        refine ol_guard_no rfl rfl rfl rfl ?_
        refine ol_guard_no rfl rfl rfl rfl ?_
        refine ol_guard_no rfl rfl rfl rfl ?_
        refine ol_guard_no rfl rfl rfl rfl ?_
        refine ol_guard_no rfl rfl rfl rfl ?_
        -- r11.18 t51 := pick  t45 t50 Cfalse
        refine ol_pure rfl (op_pick_f rfl rfl) ?_
        refine ol_nil ?_
        refine pq_then ?_
        refine cw_cond_f rfl ?_
        refine cw_skip ?_
        refine pq_in_normal ?_
        refine pq_then ?_
        refine cw_region ?_
        -- r10.0 t31 := move  t7
        refine ol_pure rfl (op_move rfl) ?_
        -- r10.1 t32 := add t31 C1
        refine ol_pure rfl (op_add rfl rfl (by omega) (by omega)) ?_
        -- r10.2 t7 := assign  t32
        refine ol_pure rfl (op_assign rfl) ?_
        refine ol_nil ?_
        -- end of round 1 h11f h30t h38f
        refine pq_loop _ _ (by exact ⟨k + 1, rfl, by omega, rfl, hS⟩) ((Sub.cons rfl (Sub.cons rfl (Sub.cons rfl (Sub.cons rfl (Sub.cons rfl (Sub.cons rfl Sub.nil))))))) (by omega)
    · skip
      try simp only [decide_eq_true_eq, decide_eq_false_iff_not, Bool.not_eq_true', Bool.not_eq_false', Bool.not_eq_eq_eq_not, Bool.not_true, Bool.not_false] at h30
      refine cw_exit ?_
      refine pq_exit ?_
      refine pq_exit ?_
      refine pq_in_exit ?_
      refine pq_then ?_
      refine cw_seq ?_
      refine cw_region ?_
      -- r13.0 t52 := load [25] t1
      refine ol_load rfl (op_loadN agg_25 rfl (by rfl) (fun w hw k u hk => (hw.bcell (i := 0) rfl).trans hk)) hS ?_
      -- r13.1 t53 := move  t6
      refine ol_pure rfl (op_move rfl) ?_
      -- r13.2 t54 := call f15 t52 t53
      refine ol_step rfl (op_call_fr hS cf_15 rfl (wfm_Least_c _ _ hS.hold EAtom.mono _ _ atoms rs (h1.mono EAtom.mono hle) (h2.mono ERule.mono hle) hP _ _ hHi)) ?_
      clear hS
      rintro v54 w ⟨F54, G54, hR54, hF54, hf54, hl54, hS⟩
      obtain ⟨o54, c54, rfl, _, _⟩ := hR54.elimN (gam_len _ _ _)
      have hle := hle.trans hl54
      replace hLo := hLo.mono EBool.mono hl54
      replace hHi := hHi.mono EBool.mono hl54
      replace hR54 := hR54.mono EBool.mono hf54
      -- r13.3 t55 := move  t5
      refine ol_pure rfl (op_move rfl) ?_
      -- r13.4 t56 := call f14 t54 t55
      refine ol_step rfl (op_call_sc hS cf_14 rfl (calls_t (by rw [sides1 hP]; simp) (R17_Bools_c _ _ hS.hold _ _ _ _ hR54 hLo))) ?_
      clear hS
      rintro _ w ⟨rfl, hS⟩
      -- r13.5 t57 := move  t56
      refine ol_pure rfl (op_move rfl) ?_
      -- r13.6 t58 := load [25] t1 ?5=True
      refine ol_guard_load rfl rfl rfl (op_loadN agg_25 rfl (by rfl) (fun w hw k u hk => (hw.bcell (i := 0) rfl).trans hk)) hS ?_
      -- r13.7 t59 := move  t5 ?5=True
      refine ol_guard_pure rfl rfl rfl (op_move rfl) ?_
      -- r13.8 t60 := call f15 t58 t59 ?5=True
      refine ol_guard_step rfl rfl rfl (op_call_fr hS cf_15 rfl (wfm_Least_c _ _ hS.hold EAtom.mono _ _ atoms rs (h1.mono EAtom.mono hle) (h2.mono ERule.mono hle) hP _ _ hLo)) ?_
      clear hS
      rintro v60 w ⟨F60, G60, hR60, hF60, hf60, hl60, hS⟩
      obtain ⟨o60, c60, rfl, _, _⟩ := hR60.elimN (gam_len _ _ _)
      have hle := hle.trans hl60
      replace hHi := hHi.mono EBool.mono hl60
      replace hR60 := hR60.mono EBool.mono hf60
      -- r13.9 t61 := move  t6 ?5=True
      refine ol_guard_pure rfl rfl rfl (op_move rfl) ?_
      -- r13.10 t62 := call f14 t60 t61 ?5=True
      refine ol_guard_step rfl rfl rfl (op_call_sc hS cf_14 rfl (calls_t (by rw [sides2 hP]; simp) (R17_Bools_c _ _ hS.hold _ _ _ _ hR60 hHi))) ?_
      clear hS
      rintro _ w ⟨rfl, hS⟩
      -- r13.11 t63 := pick  t57 t62 Cfalse
      refine ol_pure rfl (op_pick_t rfl rfl) ?_
      -- r13.12 t64 := move  t63
      refine ol_pure rfl (op_move rfl) ?_
      -- r13.13 t65 := move  t3 ?12=True
      refine ol_guard_pure rfl rfl rfl (op_move rfl) ?_
      -- r13.14 t66 := pick  t64 t65 Cfalse
      refine ol_pure rfl (op_pick_t rfl rfl) ?_
      -- r13.15 t2 := assign  t66
      refine ol_pure rfl (op_assign rfl) ?_
      refine ol_nil ?_
      refine pq_then ?_
      refine cw_ret ?_
      refine ret1 rfl rfl ?_
      -- ret4 h11f h30f
      exact hS.sc_b rfl
set_option maxRecDepth 100000 in
set_option maxHeartbeats 1000000 in

theorem L17_WfmStable_c (G : GH) (w0 : World) (hG : Holds G w0) (va vr : Value) (atoms : List (List Cell)) (rs : List Rule) (h1 : RSl 1 EAtom G va atoms) (h2 : RSl 3 ERule G vr rs) (vx : Value) (x : List Bool) (h4 : RSl 1 EBool G vx x) :
    Calls Try.prog 7 #[.agg #[va, vr], vx] w0 (Sc w0 (.bool true)) := by
  obtain ⟨oA, cA, rfl, hlA, hmA⟩ := h1.elim
  obtain ⟨oR, cR, rfl, hlR, hmR⟩ := h2.elim
  obtain ⟨oX, cX, rfl, hlX, hmX⟩ := h4.elim
  refine enter Try.func7 rfl (N := 60) rfl (Nat.le_of_ble_eq_true rfl) ?_
  have hS := SS.init hG
  refine cw_seq ?_
  refine cw_region ?_
  -- r0.0 t2 := box [25] t0
  refine ol_step rfl (op_box hS rfl rfl) ?_
  clear hS
  rintro _ w ⟨b2, rfl, hS⟩
  -- r0.1 t4 := assign  Cfalse
  refine ol_pure rfl (op_assign rfl) ?_
  refine ol_nil ?_
  refine pq_then ?_
  refine cw_seq ?_
  refine cw_region ?_
  -- r1.0 t9 := call f12 
  refine ol_step rfl (op_call_sc hS cf_12 rfl (L17_head_c G _ hS.hold)) ?_
  clear hS
  rintro _ w ⟨rfl, hS⟩
  -- r1.1 t5 := assign  t9
  refine ol_pure rfl (op_assign rfl) ?_
  refine ol_nil ?_
  refine pq_then ?_
  refine cw_seq ?_
  refine cw_seq ?_
  refine cw_region ?_
  -- r2.0 t10 := load [25] t2
  refine ol_load rfl (op_loadN agg_25 rfl (by rfl) (fun w hw k u hk => (hw.bcell (i := 0) rfl).trans hk)) hS ?_
  -- r2.1 t11 := call f13 t10
  refine ol_step rfl (op_call_sc hS cf_13 rfl (L17_may_c G _ hS.hold _ _ atoms rs h1 h2)) ?_
  clear hS
  rintro _ w ⟨rfl, hS⟩
  -- r2.2 t12 := not t11
  refine ol_pure rfl (op_not rfl) ?_
  -- r2.3 t13 := move  t12
  refine ol_pure rfl (op_move rfl) ?_
  refine ol_split (fun h13 => ?_) (fun h13 => ?_)
  · skip
    try simp only [decide_eq_true_eq, decide_eq_false_iff_not, Bool.not_eq_true', Bool.not_eq_false', Bool.not_eq_eq_eq_not, Bool.not_true, Bool.not_false] at h13
    refine ol_guard_no rfl rfl rfl rfl ?_
    refine ol_guard_no rfl rfl rfl rfl ?_
    refine ol_guard_no rfl rfl rfl rfl ?_
    refine ol_guard_no rfl rfl rfl rfl ?_
    refine ol_guard_no rfl rfl rfl rfl ?_
    refine ol_guard_no rfl rfl rfl rfl ?_
    -- r2.10 t20 := pick  t13 Ctrue t19
    refine ol_pure rfl (op_pick_t rfl rfl) ?_
    refine ol_nil ?_
    refine pq_then ?_
    refine cw_cond_t rfl ?_
    refine cw_seq ?_
    refine cw_region ?_
    -- r3.0 t21 := move  t5
    refine ol_pure rfl (op_move rfl) ?_
    -- r3.1 t4 := assign  t21
    refine ol_pure rfl (op_assign rfl) ?_
    refine ol_nil ?_
    refine pq_then ?_
    refine cw_ret ?_
    refine pq_ret ?_
    refine ret1 rfl rfl ?_
    -- ret1 h13t
    exact hS.sc_b rfl
  · skip
    try simp only [decide_eq_true_eq, decide_eq_false_iff_not, Bool.not_eq_true', Bool.not_eq_false', Bool.not_eq_eq_eq_not, Bool.not_true, Bool.not_false] at h13
    have hmay : fewP atoms rs = true ∧ RightP atoms rs := by
      rw [Bool.and_eq_true, rightPB_iff] at h13
      exact h13
    have hP := PrOk.of_may hmay.1 hmay.2
    have hPn := hP.n_le
    have hle := Le.refl G
    -- r2.4 t14 := move  t1 ?3=False
    refine ol_guard_pure rfl rfl rfl (op_move rfl) ?_
    -- r2.5 t15 := call len t14 ?3=False
    refine ol_guard_pure rfl rfl rfl (op_len sl_26 rfl rfl) ?_
    -- r2.6 t16 := fieldAddr [25, 0] t2 ?3=False
    refine ol_guard_pure rfl rfl rfl (op_fieldAddr fld_25_0 rfl) ?_
    -- r2.7 t17 := load [22] t16 ?3=False
    refine ol_guard_load rfl rfl rfl (op_load1 one_22 rfl (fun w hw => (hw.bcell (i := 0) rfl).trans rfl)) hS ?_
    -- r2.8 t18 := call len t17 ?3=False
    refine ol_guard_pure rfl rfl rfl (op_len sl_22 rfl rfl) ?_
    -- r2.9 t19 := neq t15 t18 ?3=False
    refine ol_guard_pure rfl rfl rfl (op_neq rfl rfl) ?_
    -- r2.10 t20 := pick  t13 Ctrue t19
    refine ol_pure rfl (op_pick_f rfl rfl) ?_
    refine ol_nil ?_
    refine pq_then ?_
    refine cw_cond rfl (fun h20 => ?_) (fun h20 => ?_)
    · skip
      try simp only [decide_eq_true_eq, decide_eq_false_iff_not, Bool.not_eq_true', Bool.not_eq_false', Bool.not_eq_eq_eq_not, Bool.not_true, Bool.not_false] at h20
      refine cw_seq ?_
      refine cw_region ?_
      -- r3.0 t21 := move  t5
      refine ol_pure rfl (op_move rfl) ?_
      -- r3.1 t4 := assign  t21
      refine ol_pure rfl (op_assign rfl) ?_
      refine ol_nil ?_
      refine pq_then ?_
      refine cw_ret ?_
      refine pq_ret ?_
      refine ret1 rfl rfl ?_
      -- ret1 h13f h20t
      exact hS.sc_b rfl
    · skip
      try simp only [decide_eq_true_eq, decide_eq_false_iff_not, Bool.not_eq_true', Bool.not_eq_false', Bool.not_eq_eq_eq_not, Bool.not_true, Bool.not_false] at h20
      refine cw_skip ?_
      refine pq_then ?_
      refine cw_seq ?_
      refine al_start' hS (hS.take 1) (by kernel_rfl) rfl (fun w hS hT => ?_)
      -- r4.0 t23 := load [25] t2
      refine al_load (i := 0) rfl (by kernel_rfl) (by kernel_rfl) (by kernel_rfl) rfl (fun _ _ _ h => h) (by exact op_loadN agg_25 rfl (by rfl) (fun w hw k u hk => (hw.bcell (i := 0) rfl).trans hk)) rfl hT ?_
      -- r4.1 t24 := load [25] t2
      refine al_load (i := 1) rfl (by kernel_rfl) (by kernel_rfl) (by kernel_rfl) rfl (fun _ _ _ h => h) (by exact op_loadN agg_25 rfl (by rfl) (fun w hw k u hk => (hw.bcell (i := 0) rfl).trans hk)) rfl hT ?_
      refine al_step (i := 2) rfl (by kernel_rfl) rfl (op_call_fr hS cf_18 rfl (wfm_Model_c _ _ hS.hold EAtom.mono _ _ atoms rs (h1.mono EAtom.mono hle) (h2.mono ERule.mono hle) hP)) ?_
      clear hS
      rintro v25 w ⟨F25, G25, hR25, hF25, hf25, hl25, hS⟩
      obtain ⟨o25, c25, rfl, _, _⟩ := hR25.elimN (modelI_len _ _)
      have hle := hle.trans hl25
      replace hR25 := hR25.mono EInt.mono hf25
      have hq25 := hl25
      have hT := hT.back hS (by first | exact Le.refl _ | assumption) (fun x hx => by try simp only [List.take_succ_cons, List.take_zero, List.mem_cons, List.not_mem_nil, or_false] at hx; (rcases hx with rfl) <;> simp)
      refine ⟨fun _ _ => hT, ?_⟩
      refine al_step (i := 3) rfl (by kernel_rfl) rfl (op_call_fr hS cf_24 rfl (L17_sides_c _ _ hS.hold _ _ atoms rs (h1.mono EAtom.mono hle) (h2.mono ERule.mono hle) hP _ (modelI atoms.length rs) hR25)) ?_
      clear hS
      rintro v26 w ⟨F26, G26, hR26, hF26, hf26, hl26, hS⟩
      obtain ⟨vl, vh, rfl, hLo, hHi⟩ := hR26
      obtain ⟨oL, cL, rfl, _, _⟩ := hLo.elimN (setB_length _ _ _)
      obtain ⟨oH, cH, rfl, _, _⟩ := hHi.elimN (by simp [hiB, setB_length] : (hiB (modelI atoms.length rs) atoms.length).length = atoms.length)
      replace hLo := hLo.mono EBool.mono hf26
      replace hHi := hHi.mono EBool.mono hf26
      have hle := hle.trans hl26
      have hq26 := hq25.trans hl26
      have hT := hT.back hS (by first | exact Le.refl _ | assumption) (fun x hx => by try simp only [List.take_succ_cons, List.take_zero, List.mem_cons, List.not_mem_nil, or_false] at hx; (rcases hx with rfl) <;> simp)
      refine ⟨fun _ _ => hT, ?_⟩
      -- r4.4 t22 := move  t26
      refine al_take (i := 4) rfl (by kernel_rfl) (by kernel_rfl) (by kernel_rfl) rfl (fun _ _ _ h => h) (op_move rfl) rfl ?_
      -- r4.5 t27 := extract [0] t22
      refine al_take (i := 5) rfl (by kernel_rfl) (by kernel_rfl) (by kernel_rfl) rfl (fun _ _ _ h => h) (op_extract rfl rfl) rfl ?_
      -- r4.6 t28 := extract [1] t22
      refine al_take (i := 6) rfl (by kernel_rfl) (by kernel_rfl) (by kernel_rfl) rfl (fun _ _ _ h => h) (op_extract rfl rfl) rfl ?_
      -- r4.7 t6 := assign  t27
      refine al_take (i := 7) rfl (by kernel_rfl) (by kernel_rfl) (by kernel_rfl) rfl (fun _ _ _ h => h) (op_assign rfl) rfl ?_
      -- r4.8 t7 := assign  t28
      refine al_take (i := 8) rfl (by kernel_rfl) (by kernel_rfl) (by kernel_rfl) rfl (fun _ _ _ h => h) (op_assign rfl) rfl ?_
      refine al_done (by kernel_rfl) ?_
      refine pq_then ?_
      refine cw_seq ?_
      refine cw_region ?_
      -- r5.0 t29 := load [25] t2
      refine ol_load rfl (op_loadN agg_25 rfl (by rfl) (fun w hw k u hk => (hw.bcell (i := 0) rfl).trans hk)) hS ?_
      -- r5.1 t30 := move  t1
      refine ol_pure rfl (op_move rfl) ?_
      -- r5.2 t31 := call f15 t29 t30
      refine ol_step rfl (op_call_fr hS cf_15 rfl (wfm_Least_c _ _ hS.hold EAtom.mono _ _ atoms rs (h1.mono EAtom.mono hle) (h2.mono ERule.mono hle) hP _ x (h4.mono EBool.mono hle))) ?_
      clear hS
      rintro v31 w ⟨F31, G31, hR31, hF31, hf31, hl31, hS⟩
      obtain ⟨o31, c31, rfl, _, _⟩ := hR31.elimN (gam_len _ _ _)
      have hle := hle.trans hl31
      replace hLo := hLo.mono EBool.mono hl31
      replace hHi := hHi.mono EBool.mono hl31
      replace hR31 := hR31.mono EBool.mono hf31
      -- r5.3 t8 := assign  t31
      refine ol_pure rfl (op_assign rfl) ?_
      refine ol_nil ?_
      refine pq_then ?_
      refine cw_seq ?_
      refine cw_seq ?_
      refine cw_region ?_
      -- r6.0 t32 := load [25] t2
      refine ol_load rfl (op_loadN agg_25 rfl (by rfl) (fun w hw k u hk => (hw.bcell (i := 0) rfl).trans hk)) hS ?_
      -- r6.1 t33 := move  t8
      refine ol_pure rfl (op_move rfl) ?_
      -- r6.2 t34 := call f15 t32 t33
      refine ol_step rfl (op_call_fr hS cf_15 rfl (wfm_Least_c _ _ hS.hold EAtom.mono _ _ atoms rs (h1.mono EAtom.mono hle) (h2.mono ERule.mono hle) hP _ _ hR31)) ?_
      clear hS
      rintro v34 w ⟨F34, G34, hR34, hF34, hf34, hl34, hS⟩
      obtain ⟨o34, c34, rfl, _, _⟩ := hR34.elimN (gam_len _ _ _)
      have hle := hle.trans hl34
      replace hLo := hLo.mono EBool.mono hl34
      replace hHi := hHi.mono EBool.mono hl34
      replace hR31 := hR31.mono EBool.mono hl34
      replace hR34 := hR34.mono EBool.mono hf34
      -- r6.3 t35 := move  t1
      refine ol_pure rfl (op_move rfl) ?_
      -- r6.4 t36 := call f14 t34 t35
      refine ol_step rfl (op_call_sc hS cf_14 rfl (R17_Bools_c _ _ hS.hold _ _ _ x hR34 (h4.mono EBool.mono hle))) ?_
      clear hS
      rintro _ w ⟨rfl, hS⟩
      -- r6.5 t37 := not t36
      refine ol_pure rfl (op_not rfl) ?_
      refine ol_nil ?_
      refine pq_then ?_
      refine cw_cond rfl (fun h37 => ?_) (fun h37 => ?_)
      · skip
        try simp only [decide_eq_true_eq, decide_eq_false_iff_not, Bool.not_eq_true', Bool.not_eq_false', Bool.not_eq_eq_eq_not, Bool.not_true, Bool.not_false] at h37
        refine cw_seq ?_
        refine cw_region ?_
        -- r7.0 t38 := move  t5
        refine ol_pure rfl (op_move rfl) ?_
        -- r7.1 t4 := assign  t38
        refine ol_pure rfl (op_assign rfl) ?_
        refine ol_nil ?_
        refine pq_then ?_
        refine cw_ret ?_
        refine pq_ret ?_
        refine ret1 rfl rfl ?_
        -- ret2 h13f h20f h37t
        exact hS.sc_b rfl
      · skip
        try simp only [decide_eq_true_eq, decide_eq_false_iff_not, Bool.not_eq_true', Bool.not_eq_false', Bool.not_eq_eq_eq_not, Bool.not_true, Bool.not_false] at h37
        have hst := stable hP (x := x) (by simpa using h37)
        refine cw_skip ?_
        refine pq_then ?_
        refine cw_seq ?_
        refine cw_region ?_
        -- r8.0 t39 := move  t6
        refine ol_pure rfl (op_move rfl) ?_
        -- r8.1 t40 := move  t1
        refine ol_pure rfl (op_move rfl) ?_
        -- r8.2 t41 := call f23 t39 t40
        refine ol_step rfl (op_call_sc hS cf_23 rfl (calls_t hst.1 (L17_below_c _ _ hS.hold _ _ _ x hLo (h4.mono EBool.mono hle)))) ?_
        clear hS
        rintro _ w ⟨rfl, hS⟩
        -- r8.3 t42 := move  t41
        refine ol_pure rfl (op_move rfl) ?_
        -- r8.4 t43 := move  t1 ?3=True
        refine ol_guard_pure rfl rfl rfl (op_move rfl) ?_
        -- r8.5 t44 := move  t7 ?3=True
        refine ol_guard_pure rfl rfl rfl (op_move rfl) ?_
        -- r8.6 t45 := call f23 t43 t44 ?3=True
        refine ol_guard_step rfl rfl rfl (op_call_sc hS cf_23 rfl (calls_t hst.2.1 (L17_below_c _ _ hS.hold _ _ x _ (h4.mono EBool.mono hle) hHi))) ?_
        clear hS
        rintro _ w ⟨rfl, hS⟩
        -- r8.7 t46 := pick  t42 t45 Cfalse
        refine ol_pure rfl (op_pick_t rfl rfl) ?_
        -- r8.8 t47 := move  t46
        refine ol_pure rfl (op_move rfl) ?_
        -- r8.9 t48 := move  t6 ?8=True
        refine ol_guard_pure rfl rfl rfl (op_move rfl) ?_
        -- r8.10 t49 := move  t8 ?8=True
        refine ol_guard_pure rfl rfl rfl (op_move rfl) ?_
        -- r8.11 t50 := call f23 t48 t49 ?8=True
        refine ol_guard_step rfl rfl rfl (op_call_sc hS cf_23 rfl (calls_t hst.2.2.1 (L17_below_c _ _ hS.hold _ _ _ _ hLo hR31))) ?_
        clear hS
        rintro _ w ⟨rfl, hS⟩
        -- r8.12 t51 := pick  t47 t50 Cfalse
        refine ol_pure rfl (op_pick_t rfl rfl) ?_
        -- r8.13 t52 := move  t51
        refine ol_pure rfl (op_move rfl) ?_
        -- r8.14 t53 := move  t8 ?13=True
        refine ol_guard_pure rfl rfl rfl (op_move rfl) ?_
        -- r8.15 t54 := move  t7 ?13=True
        refine ol_guard_pure rfl rfl rfl (op_move rfl) ?_
        -- r8.16 t55 := call f23 t53 t54 ?13=True
        refine ol_guard_step rfl rfl rfl (op_call_sc hS cf_23 rfl (calls_t hst.2.2.2 (L17_below_c _ _ hS.hold _ _ _ _ hR31 hHi))) ?_
        clear hS
        rintro _ w ⟨rfl, hS⟩
        -- r8.17 t56 := pick  t52 t55 Cfalse
        refine ol_pure rfl (op_pick_t rfl rfl) ?_
        -- r8.18 t57 := move  t56
        refine ol_pure rfl (op_move rfl) ?_
        -- r8.19 t58 := move  t5 ?18=True
        refine ol_guard_pure rfl rfl rfl (op_move rfl) ?_
        -- r8.20 t59 := pick  t57 t58 Cfalse
        refine ol_pure rfl (op_pick_t rfl rfl) ?_
        -- r8.21 t4 := assign  t59
        refine ol_pure rfl (op_assign rfl) ?_
        refine ol_nil ?_
        refine pq_then ?_
        refine cw_ret ?_
        refine ret1 rfl rfl ?_
        -- ret3 h13f h20f h37f
        exact hS.sc_b rfl
end Go.Proofs.Ytegjmfcfjedfjaa.K
