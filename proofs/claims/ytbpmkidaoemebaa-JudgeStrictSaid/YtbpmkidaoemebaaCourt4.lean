/-
  The court of layer judge: opened, its steps, what it takes.
  No condition but the premises that each theorem names.
-/
import Derived.Test.YtbpmkidaoemebaaCourt3
namespace Go.Proofs.Ytbpmkidaoemebaa.K
open Go Go.RowKit
set_option linter.unusedVariables false
set_option linter.unusedSimpArgs false

open Pl
/-- A court of the call's own: its block, and the row of what was told. -/
def CoM (b : Nat) (vA vR : Value) (oT : Option Addr) (cT : Nat) (m : List Int) : List Ent :=
  [.blk b 56 [vA, vR, .slice oT m.length cT], .row oT m.length cT 3 1 (m.map (Value.int .i64))]
theorem SS.coR {G0 G : GH} {w0 w : World} {M : List Ent} (h : SS G0 w0 G M w) {i b : Nat} {T : TypeId} {vA vR vT : Value} (hi : M[i]? = some (.blk b T [vA, vR, vT])) : CoR (fullG w) b vA vR vT := ⟨(h.bcell0 hi).trans rfl, (h.bcell (k := 1) hi).trans rfl, (h.bcell (k := 2) hi).trans rfl⟩
theorem SS.coT {G0 G : GH} {w0 w : World} {M : List Ent} (h : SS G0 w0 G M w) {i n c : Nat} {oa : Option Addr} {T : TypeId} {m : List Int} (hm : ∀ x ∈ m, 0 ≤ x ∧ x ≤ 2) (hi : M[i]? = some (.row oa n c T 1 (m.map (Value.int .i64)))) (hn : n = m.length) : RSl 1 EInt (fullG w) (.slice oa n c) m := by
  have hr : RowIn w oa n c T 1 (m.map (Value.int .i64)) := h.own _ (List.mem_of_getElem? hi)
  exact .of_cells hn hr.2.1 hr.2.2.1 (Rows.of_map (fun x hx => ⟨rfl, by have := hm x hx; omega⟩)) (by decide) (RowIn.full hr fun _ _ => rfl)

set_option maxRecDepth 100000 in

theorem judge_open_c {G0 G : GH} {w0 w : World} {M : List Ent} (hS : SS G0 w0 G M w) {α : Type} {E : ER α} (va vr : Value) (atoms : List α) (h1 : RSl 1 E G va atoms) (hvr : ∃ oR nR cR, vr = .slice oR nR cR) (hn : atoms.length ≤ 1000) :
    Calls Try.prog 27 #[.agg #[va, vr]] w (fun en w' => ∃ b oT cT G', en = .returned (.pointer (some ⟨b, 0, none⟩)) ∧ Le G G' ∧ SS G0 w0 G' (CoM b va vr oT cT (startI atoms.length) ++ M) w') := by
  obtain ⟨oA, cA, rfl, hlA, hmA⟩ := h1.elim
  obtain ⟨oR, nR, cR, rfl⟩ := hvr
  refine enter Try.func27 rfl (N := 11) rfl (Nat.le_of_ble_eq_true rfl) ?_
  skip
  refine cw_seq ?_
  refine cw_region ?_
  -- r0.0 t1 := box [25] t0
  refine ol_step rfl (op_box hS rfl rfl) ?_
  clear hS
  rintro _ w ⟨b1, rfl, hS⟩
  -- r0.1 t2 := assign  C(pointer (none Addr))
  refine ol_pure rfl (op_assign rfl) ?_
  refine ol_nil ?_
  refine pq_then ?_
  refine cw_seq ?_
  refine al_start' hS (hS.take 1) (by kernel_rfl) rfl (fun w hS hT => ?_)
  -- r1.0 t3 := load [25] t1
  refine al_load (i := 0) rfl (by kernel_rfl) (by kernel_rfl) (by kernel_rfl) rfl (fun _ _ _ h => h) (by exact op_loadN agg_25 rfl (by rfl) (fun w hw k u hk => (hw.bcell (i := 0) rfl).trans hk)) rfl hT ?_
  -- r1.2 t5 := fieldAddr [25, 0] t1
  refine al_take (i := 2) rfl (by kernel_rfl) (by kernel_rfl) (by kernel_rfl) rfl (fun _ _ _ h => h) (op_fieldAddr fld_25_0 rfl) rfl ?_
  -- r1.3 t6 := load [22] t5
  refine al_load (i := 3) rfl (by kernel_rfl) (by kernel_rfl) (by kernel_rfl) rfl (fun _ _ _ h => h) (by exact op_load1 one_22 rfl (fun w hw => (hw.bcell (i := 0) rfl).trans rfl)) rfl hT ?_
  -- r1.4 t7 := call len t6
  refine al_take (i := 4) rfl (by kernel_rfl) (by kernel_rfl) (by kernel_rfl) rfl (fun _ _ _ h => h) (op_len sl_22 rfl rfl) rfl ?_
  refine al_step (i := 1) rfl (by kernel_rfl) rfl (op_buildSlice (el := 3) (is := [0]) (xs := [.const (.int .i64 (1))]) (sz := 1) (cs := [.int .i64 (1)]) hS rfl rfl (fun w => by kernel_rfl) rfl (by decide)) ?_
  clear hS
  rintro _ w ⟨s4, rfl, hS⟩
  obtain ⟨G4, hl4, hS2, hR4⟩ := SS.give (zs := [(1 : Int)]) [] hS (by decide) EInt.mono (Rows.of_map (xs := [(1 : Int)]) (f := Value.int .i64) (fun y hy => ⟨rfl, by simp at hy; subst hy; omega⟩)) rfl
  clear hS
  have hS := hS2
  clear hS2
  simp only [List.nil_append] at hS
  have hT := hT.back hS (by first | exact Le.refl _ | assumption) (fun x hx => by try simp only [List.take_succ_cons, List.take_zero, List.mem_cons, List.not_mem_nil, or_false] at hx; (rcases hx with rfl) <;> simp)
  refine ⟨fun _ _ => hT, ?_⟩
  refine al_step (i := 5) rfl (by kernel_rfl) rfl (op_call (R := fun v w' => ∃ oN cN, v = .slice oN atoms.length cN ∧ SS G0 w0 G4 (.row oN atoms.length cN 3 1 ((List.replicate atoms.length (1 : Int)).map (Value.int .i64)) :: .blk b1 25 [.slice oA atoms.length cA, .slice oR nR cR] :: M) w') cf_48 rfl ((slices_Repeat_c hS _ 1 hR4 atoms.length hn).mono fun _ _ ⟨oN, cN, e1, e2⟩ => ⟨_, e1, oN, cN, rfl, e2⟩)) ?_
  clear hS
  rintro _ w ⟨oT, cT, rfl, hS⟩
  have hT := hT.back hS (by first | exact Le.refl _ | assumption) (fun x hx => by try simp only [List.take_succ_cons, List.take_zero, List.mem_cons, List.not_mem_nil, or_false] at hx; (rcases hx with rfl) <;> simp)
  refine ⟨fun _ _ => hT, ?_⟩
  -- r1.6 t9 := build [56] 0:t3 1:t8
  refine al_take (i := 6) rfl (by kernel_rfl) (by kernel_rfl) (by kernel_rfl) rfl (fun _ _ _ h => h) (op_build (is := [0, 1]) (xs := [.tmp 3, .tmp 8]) (v := .agg #[.slice oA atoms.length cA, .slice oR nR cR, .slice oT atoms.length cT]) rfl rfl (fun w => by kernel_rfl)) rfl ?_
  refine al_step (i := 7) rfl (by kernel_rfl) rfl (op_box hS rfl rfl) ?_
  clear hS
  rintro _ w ⟨b, rfl, hS⟩
  have hT := hT.back hS (by first | exact Le.refl _ | assumption) (fun x hx => by try simp only [List.take_succ_cons, List.take_zero, List.mem_cons, List.not_mem_nil, or_false] at hx; (rcases hx with rfl) <;> simp)
  refine ⟨fun _ _ => hT, ?_⟩
  -- r1.8 t2 := assign  t10
  refine al_take (i := 8) rfl (by kernel_rfl) (by kernel_rfl) (by kernel_rfl) rfl (fun _ _ _ h => h) (op_assign rfl) rfl ?_
  refine al_done (by kernel_rfl) ?_
  refine pq_then ?_
  refine cw_ret ?_
  refine ret1 rfl rfl ?_
  -- ret1 
  refine ⟨b, oT, cT, G4, rfl, hl4, ?_⟩
  replace hS := SS.drop [_, _] hS
  unfold CoM
  simpa [startI] using hS
set_option maxRecDepth 100000 in
set_option maxHeartbeats 2000000 in

theorem judge_court_step_c {G0 G : GH} {w0 w : World} {M : List Ent} {b : Nat} {vA vR : Value} {oT : Option Addr} {cT : Nat} {m : List Int} (hS : SS G0 w0 G (CoM b vA vR oT cT m ++ M) w) (hmb : ∀ x ∈ m, 0 ≤ x ∧ x ≤ 2) (rs : List Rule) (hR : RSl 3 ERule G vR rs) (hok : ∀ r ∈ rs, RuleOk m.length r) (s : Step) (v : Value) (h1 : RSl 1 EInt G v s.atoms) (hsb : -9223372036854775808 ≤ s.rule ∧ s.rule ≤ 9223372036854775807) :
    Calls Try.prog 50 #[.pointer (some ⟨b, 0, none⟩), .agg #[.int .i64 s.rule, v]] w (fun en w' => en = .returned (.bool (stepOk rs m s)) ∧ SS G0 w0 G (CoM b vA vR oT cT (if stepOk rs m s = true then tellI m s else m) ++ M) w') := by
  obtain ⟨oR, cR, rfl, hlR, hmR⟩ := hR.elim
  have hRle := hR.le
  obtain ⟨oS, cS, rfl, hlS, hmS⟩ := h1.elim
  have hSle := h1.le
  refine enter Try.func50 rfl (N := 78) rfl (Nat.le_of_ble_eq_true rfl) ?_
  unfold CoM at hS
  simp only [List.cons_append, List.nil_append] at hS
  refine cw_seq ?_
  refine cw_region ?_
  -- r0.0 t3 := box [44] t1
  refine ol_step rfl (op_box hS rfl rfl) ?_
  clear hS
  rintro _ w ⟨b3, rfl, hS⟩
  -- r0.1 t4 := assign  Cfalse
  refine ol_pure rfl (op_assign rfl) ?_
  refine ol_nil ?_
  refine pq_then ?_
  refine cw_seq ?_
  refine cw_region ?_
  -- r1.0 t5 := assign  C0
  refine ol_pure rfl (op_assign rfl) ?_
  refine ol_nil ?_
  refine pq_then ?_
  refine cw_seq ?_
  refine cw_block ?_
  refine cw_seq ?_
  refine al_start' hS (hS.take 2) (by kernel_rfl) rfl (fun w hS hT => ?_)
  -- r2.0 t10 := move  t0
  refine al_take (i := 0) rfl (by kernel_rfl) (by kernel_rfl) (by kernel_rfl) rfl (fun _ _ _ h => h) (op_move rfl) rfl ?_
  -- r2.1 t11 := fieldAddr [44, 1] t3
  refine al_take (i := 1) rfl (by kernel_rfl) (by kernel_rfl) (by kernel_rfl) rfl (fun _ _ _ h => h) (op_fieldAddr fld_44_1 rfl) rfl ?_
  -- r2.2 t12 := load [29] t11
  refine al_load (i := 2) rfl (by kernel_rfl) (by kernel_rfl) (by kernel_rfl) rfl (fun _ _ _ h => h) (by exact op_load1 one_29 rfl (fun w hw => (hw.bcell (i := 0) rfl).trans rfl)) rfl hT ?_
  refine al_step (i := 3) rfl (by kernel_rfl) rfl (op_call_sc hS cf_67 rfl (judge_court_set_c (fullG _) _ (Holds.full _) b vA _ _ m (hS.coR (i := 1) rfl) (hS.coT hmb (i := 2) rfl rfl) _ s.atoms (h1.mono EInt.mono hS.hold.le_full))) ?_
  clear hS
  rintro _ w ⟨rfl, hS⟩
  have hT := hT.back hS (by first | exact Le.refl _ | assumption) (fun x hx => by try simp only [List.take_succ_cons, List.take_zero, List.mem_cons, List.not_mem_nil, or_false] at hx; (rcases hx with rfl | rfl) <;> simp)
  refine ⟨fun _ _ => hT, ?_⟩
  -- r2.4 t14 := not t13
  refine al_take (i := 4) rfl (by kernel_rfl) (by kernel_rfl) (by kernel_rfl) rfl (fun _ _ _ h => h) (op_not rfl) rfl ?_
  -- r2.5 t15 := move  t14
  refine al_take (i := 5) rfl (by kernel_rfl) (by kernel_rfl) (by kernel_rfl) rfl (fun _ _ _ h => h) (op_move rfl) rfl ?_
  refine al_split (fun h15 => ?_) (fun h15 => ?_)
  · skip
    try simp only [decide_eq_true_eq, decide_eq_false_iff_not, Bool.not_eq_true', Bool.not_eq_false', Bool.not_eq_eq_eq_not, Bool.not_true, Bool.not_false] at h15
    have hso := stepOk_noset (rs := rs) h15
    refine al_gskip (i := 6) rfl (by kernel_rfl) (by kernel_rfl) (by kernel_rfl) rfl rfl rfl rfl (fun _ _ _ h => h) (fun _ => hT) ?_
    refine al_gskip (i := 7) rfl (by kernel_rfl) (by kernel_rfl) (by kernel_rfl) rfl rfl rfl rfl (fun _ _ _ h => h) (fun _ => hT) ?_
    refine al_gskip (i := 8) rfl (by kernel_rfl) (by kernel_rfl) (by kernel_rfl) rfl rfl rfl rfl (fun _ _ _ h => h) (fun _ => hT) ?_
    -- r2.9 t19 := pick  t15 Ctrue t18
    refine al_take (i := 9) rfl (by kernel_rfl) (by kernel_rfl) (by kernel_rfl) rfl (fun _ _ _ h => h) (op_pick_t rfl rfl) rfl ?_
    -- r2.10 t20 := move  t19
    refine al_take (i := 10) rfl (by kernel_rfl) (by kernel_rfl) (by kernel_rfl) rfl (fun _ _ _ h => h) (op_move rfl) rfl ?_
    refine al_gskip (i := 11) rfl (by kernel_rfl) (by kernel_rfl) (by kernel_rfl) rfl rfl rfl rfl (fun _ _ _ h => h) (fun _ => hT) ?_
    refine al_gskip (i := 12) rfl (by kernel_rfl) (by kernel_rfl) (by kernel_rfl) rfl rfl rfl rfl (fun _ _ _ h => h) (fun _ => hT) ?_
    refine al_gskip (i := 13) rfl (by kernel_rfl) (by kernel_rfl) (by kernel_rfl) rfl rfl rfl rfl (fun _ _ _ h => h) (fun _ => hT) ?_
    refine al_gskip (i := 14) rfl (by kernel_rfl) (by kernel_rfl) (by kernel_rfl) rfl rfl rfl rfl (fun _ _ _ h => h) (fun _ => hT) ?_
    refine al_gskip (i := 15) rfl (by kernel_rfl) (by kernel_rfl) (by kernel_rfl) rfl rfl rfl rfl (fun _ _ _ h => h) (fun _ => hT) ?_
    refine al_gskip (i := 16) rfl (by kernel_rfl) (by kernel_rfl) (by kernel_rfl) rfl rfl rfl rfl (fun _ _ _ h => h) (fun _ => hT) ?_
    refine al_gskip (i := 17) rfl (by kernel_rfl) (by kernel_rfl) (by kernel_rfl) rfl rfl rfl rfl (fun _ _ _ h => h) (fun _ => hT) ?_
    refine al_gskip (i := 18) rfl (by kernel_rfl) (by kernel_rfl) (by kernel_rfl) rfl rfl rfl rfl (fun _ _ _ h => h) (fun _ => hT) ?_
    refine al_gskip (i := 19) rfl (by kernel_rfl) (by kernel_rfl) (by kernel_rfl) rfl rfl rfl rfl (fun _ _ _ h => h) (fun _ => hT) ?_
    -- r2.20 t30 := pick  t20 Ctrue t29
    refine al_take (i := 20) rfl (by kernel_rfl) (by kernel_rfl) (by kernel_rfl) rfl (fun _ _ _ h => h) (op_pick_t rfl rfl) rfl ?_
    -- r2.21 t9 := assign  t30
    refine al_take (i := 21) rfl (by kernel_rfl) (by kernel_rfl) (by kernel_rfl) rfl (fun _ _ _ h => h) (op_assign rfl) rfl ?_
    refine al_done (by kernel_rfl) ?_
    refine pq_then ?_
    refine cw_cond_t rfl ?_
    refine cw_seq ?_
    refine cw_region ?_
    -- r3.0 t4 := assign  Cfalse
    refine ol_pure rfl (op_assign rfl) ?_
    refine ol_nil ?_
    refine pq_then ?_
    refine cw_ret ?_
    refine pq_in_ret ?_
    refine pq_ret ?_
    refine ret1 rfl rfl ?_
    -- ret1 h15t
    have hso : stepOk rs m s = false := by first | assumption | exact stepOk_big (by omega)
    replace hS := SS.drop [] hS
    refine ⟨by rw [hso], ?_⟩
    rw [hso, if_neg (by decide)]
    unfold CoM
    exact hS
  · skip
    try simp only [decide_eq_true_eq, decide_eq_false_iff_not, Bool.not_eq_true', Bool.not_eq_false', Bool.not_eq_eq_eq_not, Bool.not_true, Bool.not_false] at h15
    -- r2.6 t16 := fieldAddr [44, 0] t3 ?5=False
    refine al_gtake (i := 6) rfl (by kernel_rfl) (by kernel_rfl) (by kernel_rfl) rfl rfl rfl (fun _ _ _ h => h) (op_fieldAddr fld_44_0 rfl) rfl ?_
    -- r2.7 t17 := load [3] t16 ?5=False
    refine al_gload (i := 7) rfl (by kernel_rfl) (by kernel_rfl) (by kernel_rfl) rfl rfl rfl (fun _ _ _ h => h) (by exact op_load1 one_3 rfl (fun w hw => (hw.bcell (i := 0) rfl).trans rfl)) rfl hT ?_
    -- r2.8 t18 := lss t17 C-1 ?5=False
    refine al_gtake (i := 8) rfl (by kernel_rfl) (by kernel_rfl) (by kernel_rfl) rfl rfl rfl (fun _ _ _ h => h) (op_lss rfl rfl) rfl ?_
    -- r2.9 t19 := pick  t15 Ctrue t18
    refine al_take (i := 9) rfl (by kernel_rfl) (by kernel_rfl) (by kernel_rfl) rfl (fun _ _ _ h => h) (op_pick_f rfl rfl) rfl ?_
    -- r2.10 t20 := move  t19
    refine al_take (i := 10) rfl (by kernel_rfl) (by kernel_rfl) (by kernel_rfl) rfl (fun _ _ _ h => h) (op_move rfl) rfl ?_
    refine al_split (fun h20 => ?_) (fun h20 => ?_)
    · skip
      try simp only [decide_eq_true_eq, decide_eq_false_iff_not, Bool.not_eq_true', Bool.not_eq_false', Bool.not_eq_eq_eq_not, Bool.not_true, Bool.not_false] at h20
      have hso := stepOk_small (rs := rs) (m := m) h20
      refine al_gskip (i := 11) rfl (by kernel_rfl) (by kernel_rfl) (by kernel_rfl) rfl rfl rfl rfl (fun _ _ _ h => h) (fun _ => hT) ?_
      refine al_gskip (i := 12) rfl (by kernel_rfl) (by kernel_rfl) (by kernel_rfl) rfl rfl rfl rfl (fun _ _ _ h => h) (fun _ => hT) ?_
      refine al_gskip (i := 13) rfl (by kernel_rfl) (by kernel_rfl) (by kernel_rfl) rfl rfl rfl rfl (fun _ _ _ h => h) (fun _ => hT) ?_
      refine al_gskip (i := 14) rfl (by kernel_rfl) (by kernel_rfl) (by kernel_rfl) rfl rfl rfl rfl (fun _ _ _ h => h) (fun _ => hT) ?_
      refine al_gskip (i := 15) rfl (by kernel_rfl) (by kernel_rfl) (by kernel_rfl) rfl rfl rfl rfl (fun _ _ _ h => h) (fun _ => hT) ?_
      refine al_gskip (i := 16) rfl (by kernel_rfl) (by kernel_rfl) (by kernel_rfl) rfl rfl rfl rfl (fun _ _ _ h => h) (fun _ => hT) ?_
      refine al_gskip (i := 17) rfl (by kernel_rfl) (by kernel_rfl) (by kernel_rfl) rfl rfl rfl rfl (fun _ _ _ h => h) (fun _ => hT) ?_
      refine al_gskip (i := 18) rfl (by kernel_rfl) (by kernel_rfl) (by kernel_rfl) rfl rfl rfl rfl (fun _ _ _ h => h) (fun _ => hT) ?_
      refine al_gskip (i := 19) rfl (by kernel_rfl) (by kernel_rfl) (by kernel_rfl) rfl rfl rfl rfl (fun _ _ _ h => h) (fun _ => hT) ?_
      -- r2.20 t30 := pick  t20 Ctrue t29
      refine al_take (i := 20) rfl (by kernel_rfl) (by kernel_rfl) (by kernel_rfl) rfl (fun _ _ _ h => h) (op_pick_t rfl rfl) rfl ?_
      -- r2.21 t9 := assign  t30
      refine al_take (i := 21) rfl (by kernel_rfl) (by kernel_rfl) (by kernel_rfl) rfl (fun _ _ _ h => h) (op_assign rfl) rfl ?_
      refine al_done (by kernel_rfl) ?_
      refine pq_then ?_
      refine cw_cond_t rfl ?_
      refine cw_seq ?_
      refine cw_region ?_
      -- r3.0 t4 := assign  Cfalse
      refine ol_pure rfl (op_assign rfl) ?_
      refine ol_nil ?_
      refine pq_then ?_
      refine cw_ret ?_
      refine pq_in_ret ?_
      refine pq_ret ?_
      refine ret1 rfl rfl ?_
      -- ret1 h15f h20t
      have hso : stepOk rs m s = false := by first | assumption | exact stepOk_big (by omega)
      replace hS := SS.drop [] hS
      refine ⟨by rw [hso], ?_⟩
      rw [hso, if_neg (by decide)]
      unfold CoM
      exact hS
    · skip
      try simp only [decide_eq_true_eq, decide_eq_false_iff_not, Bool.not_eq_true', Bool.not_eq_false', Bool.not_eq_eq_eq_not, Bool.not_true, Bool.not_false] at h20
      -- r2.11 t21 := fieldAddr [44, 0] t3 ?10=False
      refine al_gtake (i := 11) rfl (by kernel_rfl) (by kernel_rfl) (by kernel_rfl) rfl rfl rfl (fun _ _ _ h => h) (op_fieldAddr fld_44_0 rfl) rfl ?_
      -- r2.12 t22 := load [3] t21 ?10=False
      refine al_gload (i := 12) rfl (by kernel_rfl) (by kernel_rfl) (by kernel_rfl) rfl rfl rfl (fun _ _ _ h => h) (by exact op_load1 one_3 rfl (fun w hw => (hw.bcell (i := 0) rfl).trans rfl)) rfl hT ?_
      -- r2.13 t23 := move  t0 ?10=False
      refine al_gtake (i := 13) rfl (by kernel_rfl) (by kernel_rfl) (by kernel_rfl) rfl rfl rfl (fun _ _ _ h => h) (op_move rfl) rfl ?_
      -- r2.14 t24 := nilCheck  t23 ?10=False
      refine al_gtake (i := 14) rfl (by kernel_rfl) (by kernel_rfl) (by kernel_rfl) rfl rfl rfl (fun _ _ _ h => h) (op_nilCheck rfl) rfl ?_
      -- r2.15 t25 := fieldAddr [56, 0] t24 ?10=False
      refine al_gtake (i := 15) rfl (by kernel_rfl) (by kernel_rfl) (by kernel_rfl) rfl rfl rfl (fun _ _ _ h => h) (op_fieldAddr fld_56_0 rfl) rfl ?_
      -- r2.16 t26 := fieldAddr [25, 1] t25 ?10=False
      refine al_gtake (i := 16) rfl (by kernel_rfl) (by kernel_rfl) (by kernel_rfl) rfl rfl rfl (fun _ _ _ h => h) (op_fieldAddr fld_25_1 rfl) rfl ?_
      -- r2.17 t27 := load [23] t26 ?10=False
      refine al_gload (i := 17) rfl (by kernel_rfl) (by kernel_rfl) (by kernel_rfl) rfl rfl rfl (fun _ _ _ h => h) (by exact op_load1 one_23 rfl (fun w hw => (hw.bcell (i := 1) (k := 1) rfl).trans rfl)) rfl hT ?_
      -- r2.18 t28 := call len t27 ?10=False
      refine al_gtake (i := 18) rfl (by kernel_rfl) (by kernel_rfl) (by kernel_rfl) rfl rfl rfl (fun _ _ _ h => h) (op_len sl_23 rfl rfl) rfl ?_
      -- r2.19 t29 := geq t22 t28 ?10=False
      refine al_gtake (i := 19) rfl (by kernel_rfl) (by kernel_rfl) (by kernel_rfl) rfl rfl rfl (fun _ _ _ h => h) (op_geq rfl rfl) rfl ?_
      -- r2.20 t30 := pick  t20 Ctrue t29
      refine al_take (i := 20) rfl (by kernel_rfl) (by kernel_rfl) (by kernel_rfl) rfl (fun _ _ _ h => h) (op_pick_f rfl rfl) rfl ?_
      -- r2.21 t9 := assign  t30
      refine al_take (i := 21) rfl (by kernel_rfl) (by kernel_rfl) (by kernel_rfl) rfl (fun _ _ _ h => h) (op_assign rfl) rfl ?_
      refine al_done (by kernel_rfl) ?_
      refine pq_then ?_
      refine cw_cond rfl (fun h9 => ?_) (fun h9 => ?_)
      · skip
        try simp only [decide_eq_true_eq, decide_eq_false_iff_not, Bool.not_eq_true', Bool.not_eq_false', Bool.not_eq_eq_eq_not, Bool.not_true, Bool.not_false] at h9
        refine cw_seq ?_
        refine cw_region ?_
        -- r3.0 t4 := assign  Cfalse
        refine ol_pure rfl (op_assign rfl) ?_
        refine ol_nil ?_
        refine pq_then ?_
        refine cw_ret ?_
        refine pq_in_ret ?_
        refine pq_ret ?_
        refine ret1 rfl rfl ?_
        -- ret1 h15f h20f h9t
        have hso : stepOk rs m s = false := by first | assumption | exact stepOk_big (by omega)
        replace hS := SS.drop [] hS
        refine ⟨by rw [hso], ?_⟩
        rw [hso, if_neg (by decide)]
        unfold CoM
        exact hS
      · skip
        try simp only [decide_eq_true_eq, decide_eq_false_iff_not, Bool.not_eq_true', Bool.not_eq_false', Bool.not_eq_eq_eq_not, Bool.not_true, Bool.not_false] at h9
        refine cw_seq ?_
        refine cw_region ?_
        -- r4.0 t32 := fieldAddr [44, 0] t3
        refine ol_pure rfl (op_fieldAddr fld_44_0 rfl) ?_
        -- r4.1 t33 := load [3] t32
        refine ol_load rfl (op_load1 one_3 rfl (fun w hw => (hw.bcell (i := 0) rfl).trans rfl)) hS ?_
        -- r4.2 t34 := geq t33 C0
        refine ol_pure rfl (op_geq rfl rfl) ?_
        -- r4.3 t31 := assign  t34
        refine ol_pure rfl (op_assign rfl) ?_
        refine ol_nil ?_
        refine pq_then ?_
        refine cw_cond rfl (fun h31 => ?_) (fun h31 => ?_)
        · skip
          try simp only [decide_eq_true_eq, decide_eq_false_iff_not, Bool.not_eq_true', Bool.not_eq_false', Bool.not_eq_eq_eq_not, Bool.not_true, Bool.not_false] at h31
          obtain ⟨k, hk⟩ := Int.eq_ofNat_of_zero_le h31
          have hlt : k < rs.length := by omega
          have hrk := hok _ (List.getElem_mem hlt)
          obtain ⟨hoa, cs, hcl, ⟨p, q, rfl, hp, hq, hhd⟩, hcells⟩ := hR.el hlt
          obtain ⟨op, cp, hpe, hlp, hmp⟩ := hp.elim
          obtain ⟨oq, cq, hqe, hlq, hmq⟩ := hq.elim
          subst hpe
          subst hqe
          have hcells2 : ∀ (j : Nat) (u : Value), [Value.int .i64 rs[k].head, .slice op rs[k].pos.length cp, .slice oq rs[k].neg.length cq][j]? = some u → gcell G ((elA oR (s.rule.toNat * 3)).add j) = some u := by rw [hk]; exact hcells
          have hby := stepOk_byrule (m := m) hk hlt
          have htv : (if 0 ≤ s.rule then (2 : Int) else 0) = 2 := if_pos h31
          refine cw_seq ?_
          refine al_start' hS (hS.take 2) (by kernel_rfl) rfl (fun w hS hT => ?_)
          -- r5.0 t35 := move  t0
          refine al_take (i := 0) rfl (by kernel_rfl) (by kernel_rfl) (by kernel_rfl) rfl (fun _ _ _ h => h) (op_move rfl) rfl ?_
          -- r5.1 t36 := nilCheck  t35
          refine al_take (i := 1) rfl (by kernel_rfl) (by kernel_rfl) (by kernel_rfl) rfl (fun _ _ _ h => h) (op_nilCheck rfl) rfl ?_
          -- r5.2 t37 := fieldAddr [56, 0] t36
          refine al_take (i := 2) rfl (by kernel_rfl) (by kernel_rfl) (by kernel_rfl) rfl (fun _ _ _ h => h) (op_fieldAddr fld_56_0 rfl) rfl ?_
          -- r5.3 t38 := fieldAddr [25, 1] t37
          refine al_take (i := 3) rfl (by kernel_rfl) (by kernel_rfl) (by kernel_rfl) rfl (fun _ _ _ h => h) (op_fieldAddr fld_25_1 rfl) rfl ?_
          -- r5.4 t39 := load [23] t38
          refine al_load (i := 4) rfl (by kernel_rfl) (by kernel_rfl) (by kernel_rfl) rfl (fun _ _ _ h => h) (by exact op_load1 one_23 rfl (fun w hw => (hw.bcell (i := 1) (k := 1) rfl).trans rfl)) rfl hT ?_
          -- r5.5 t40 := fieldAddr [44, 0] t3
          refine al_take (i := 5) rfl (by kernel_rfl) (by kernel_rfl) (by kernel_rfl) rfl (fun _ _ _ h => h) (op_fieldAddr fld_44_0 rfl) rfl ?_
          -- r5.6 t41 := load [3] t40
          refine al_load (i := 6) rfl (by kernel_rfl) (by kernel_rfl) (by kernel_rfl) rfl (fun _ _ _ h => h) (by exact op_load1 one_3 rfl (fun w hw => (hw.bcell (i := 0) rfl).trans rfl)) rfl hT ?_
          -- r5.7 t42 := indexAddr [23] t39 t41
          refine al_take (i := 7) rfl (by kernel_rfl) (by kernel_rfl) (by kernel_rfl) rfl (fun _ _ _ h => h) (op_indexAddr sl_23 rfl rfl (by omega) (by omega) hoa) rfl ?_
          -- r5.8 t43 := load [48] t42
          refine al_load (i := 8) rfl (by kernel_rfl) (by kernel_rfl) (by kernel_rfl) rfl (fun _ _ _ h => h) (by exact op_loadN agg_48 rfl (by rfl) (fun w hw k u hk => hw.gcell (hcells2 k u hk))) rfl hT ?_
          refine al_step (i := 9) rfl (by kernel_rfl) rfl (op_alloc hS el_48 rfl) ?_
          clear hS
          rintro _ w ⟨b6, rfl, hS⟩
          have hT := hT.back hS (by first | exact Le.refl _ | assumption) (fun x hx => by try simp only [List.take_succ_cons, List.take_zero, List.mem_cons, List.not_mem_nil, or_false] at hx; (rcases hx with rfl | rfl) <;> simp)
          refine ⟨fun _ _ => hT, ?_⟩
          refine al_step0 (i := 10) rfl (by kernel_rfl) (op_storeN (j := 0) hS sz_48 rfl rfl rfl rfl rfl (by simp [Value.oneCell'])) ?_
          clear hS
          rintro _ w hS; (try simp only [List.nil_append, List.cons_append, List.set] at hS)
          refine ⟨no_need (by kernel_rfl), ?_⟩
          refine al_done (by kernel_rfl) ?_
          refine pq_then ?_
          refine cw_seq ?_
          refine cw_seq ?_
          refine cw_region ?_
          -- r6.0 t44 := fieldAddr [44, 1] t3
          refine ol_pure rfl (op_fieldAddr fld_44_1 rfl) ?_
          -- r6.1 t45 := load [29] t44
          refine ol_load rfl (op_load1 one_29 rfl (fun w hw => (hw.bcell (i := 1) rfl).trans rfl)) hS ?_
          -- r6.2 t46 := fieldAddr [48, 0] t6
          refine ol_pure rfl (op_fieldAddr fld_48_0 rfl) ?_
          -- r6.3 t47 := load [3] t46
          refine ol_load rfl (op_load1 one_3 rfl (fun w hw => (hw.bcell (i := 0) rfl).trans rfl)) hS ?_
          -- r6.4 t48 := buildSlice [29, 1] 0:t47
          refine ol_step rfl (op_buildSlice (el := 3) (is := [0]) (xs := [.tmp 47]) (sz := 1) (cs := [.int .i64 rs[k].head]) hS rfl rfl (fun w => by kernel_rfl) rfl (by decide)) ?_
          clear hS
          rintro _ w ⟨s48, rfl, hS⟩
          -- r6.5 t49 := call f68 t45 t48
          have hlend := SS.lend [] hS (by decide) EInt.mono (Rows.of_map (xs := [rs[k].head]) (f := Value.int .i64) (E := EInt) (fun y hy => ⟨rfl, by simp at hy; subst hy; exact hhd⟩)) rfl
          refine ol_step rfl (op_call_sc hS cf_68 rfl (slices_Equal_c (fullG _) _ (Holds.full _) _ _ s.atoms [rs[k].head] (h1.mono EInt.mono hS.hold.le_full) hlend)) ?_
          clear hS
          rintro _ w ⟨rfl, hS⟩
          -- r6.6 t50 := not t49
          refine ol_pure rfl (op_not rfl) ?_
          -- r6.7 t51 := move  t50
          refine ol_pure rfl (op_move rfl) ?_
          refine ol_split (fun h51 => ?_) (fun h51 => ?_)
          · skip
            try simp only [decide_eq_true_eq, decide_eq_false_iff_not, Bool.not_eq_true', Bool.not_eq_false', Bool.not_eq_eq_eq_not, Bool.not_true, Bool.not_false] at h51
            have hso : stepOk rs m s = false := by rw [hby]; simp_all
            refine ol_guard_no rfl rfl rfl rfl ?_
            refine ol_guard_no rfl rfl rfl rfl ?_
            refine ol_guard_no rfl rfl rfl rfl ?_
            refine ol_guard_no rfl rfl rfl rfl ?_
            -- r6.12 t56 := pick  t51 Ctrue t55
            refine ol_pure rfl (op_pick_t rfl rfl) ?_
            refine ol_nil ?_
            refine pq_then ?_
            refine cw_cond_t rfl ?_
            refine cw_seq ?_
            refine cw_region ?_
            -- r7.0 t4 := assign  Cfalse
            refine ol_pure rfl (op_assign rfl) ?_
            refine ol_nil ?_
            refine pq_then ?_
            refine cw_ret ?_
            refine pq_ret ?_
            refine pq_in_ret ?_
            refine pq_ret ?_
            refine ret1 rfl rfl ?_
            -- ret2 h15f h20f h9f h31t h51t
            replace hS := SS.drop [] hS
            replace hS := SS.drop [] hS
            replace hS := SS.drop [] hS
            refine ⟨by rw [hso], ?_⟩
            rw [hso, if_neg (by decide)]
            unfold CoM
            exact hS
          · skip
            try simp only [decide_eq_true_eq, decide_eq_false_iff_not, Bool.not_eq_true', Bool.not_eq_false', Bool.not_eq_eq_eq_not, Bool.not_true, Bool.not_false] at h51
            -- r6.8 t52 := move  t0 ?7=False
            refine ol_guard_pure rfl rfl rfl (op_move rfl) ?_
            -- r6.9 t53 := load [48] t6 ?7=False
            refine ol_guard_load rfl rfl rfl (op_loadN agg_48 rfl (by rfl) (fun w hw k u hk => (hw.bcell (i := 1) rfl).trans hk)) hS ?_
            -- r6.10 t54 := call f29 t52 t53 ?7=False
            refine ol_guard_step rfl rfl rfl (op_call_sc hS cf_29 rfl (judge_court_fires_c (fullG _) _ (Holds.full _) b vA _ _ m (hS.coR (i := 3) rfl) (hS.coT hmb (i := 4) rfl rfl) rs[k] _ _ (hp.mono EInt.mono hS.hold.le_full) (hq.mono EInt.mono hS.hold.le_full) hrk)) ?_
            clear hS
            rintro _ w ⟨rfl, hS⟩
            -- r6.11 t55 := not t54 ?7=False
            refine ol_guard_pure rfl rfl rfl (op_not rfl) ?_
            -- r6.12 t56 := pick  t51 Ctrue t55
            refine ol_pure rfl (op_pick_f rfl rfl) ?_
            refine ol_nil ?_
            refine pq_then ?_
            refine cw_cond rfl (fun h56 => ?_) (fun h56 => ?_)
            · skip
              try simp only [decide_eq_true_eq, decide_eq_false_iff_not, Bool.not_eq_true', Bool.not_eq_false', Bool.not_eq_eq_eq_not, Bool.not_true, Bool.not_false] at h56
              have hso : stepOk rs m s = false := by rw [hby]; simp_all
              refine cw_seq ?_
              refine cw_region ?_
              -- r7.0 t4 := assign  Cfalse
              refine ol_pure rfl (op_assign rfl) ?_
              refine ol_nil ?_
              refine pq_then ?_
              refine cw_ret ?_
              refine pq_ret ?_
              refine pq_in_ret ?_
              refine pq_ret ?_
              refine ret1 rfl rfl ?_
              -- ret2 h15f h20f h9f h31t h51f h56t
              replace hS := SS.drop [] hS
              replace hS := SS.drop [] hS
              replace hS := SS.drop [] hS
              refine ⟨by rw [hso], ?_⟩
              rw [hso, if_neg (by decide)]
              unfold CoM
              exact hS
            · skip
              try simp only [decide_eq_true_eq, decide_eq_false_iff_not, Bool.not_eq_true', Bool.not_eq_false', Bool.not_eq_eq_eq_not, Bool.not_true, Bool.not_false] at h56
              have hso : stepOk rs m s = true := by rw [hby]; simp_all
              replace hS := SS.drop [] (SS.drop [] hS)
              simp only [List.nil_append] at hS
              refine cw_skip ?_
              refine pq_then ?_
              refine cw_region ?_
              -- r8.0 t5 := assign  C2
              refine ol_pure rfl (op_assign rfl) ?_
              refine ol_nil ?_
              refine pq_in_normal ?_
              refine pq_then ?_
              refine cw_seq ?_
              refine cw_seq ?_
              refine cw_region ?_
              -- r11.0 t63 := fieldAddr [44, 1] t3
              refine ol_pure rfl (op_fieldAddr fld_44_1 rfl) ?_
              -- r11.1 t64 := load [29] t63
              refine ol_load rfl (op_load1 one_29 rfl (fun w hw => (hw.bcell (i := 0) rfl).trans rfl)) hS ?_
              -- r11.2 t65 := call len t64
              refine ol_pure rfl (op_len sl_29 rfl rfl) ?_
              -- r11.3 t66 := move  C0
              refine ol_pure rfl (op_move rfl) ?_
              refine ol_nil ?_
              refine pq_then ?_
              refine cw_block ?_
              refine cw_loop (fun e w n => ∃ j : Nat, e = [(0, .pointer (some ⟨b, 0, none⟩)), (5, .int .i64 (2)), (64, .slice oS s.atoms.length cS), (65, .int .i64 (s.atoms.length : Nat)), (66, .int .i64 (j : Nat))] ∧ j ≤ s.atoms.length ∧ n = s.atoms.length - j ∧ SS G0 w0 G (.blk b3 44 [.int .i64 s.rule, .slice oS s.atoms.length cS] :: .blk b 56 [vA, .slice oR rs.length cR, .slice oT m.length cT] :: .row oT m.length cT 3 1 ((setAll m (s.atoms.take j) (if 0 ≤ s.rule then (2 : Int) else 0)).map (Value.int .i64)) :: M) w) _ _ (by exact ⟨0, rfl, Nat.zero_le _, rfl, hS⟩) ((Sub.cons rfl (Sub.cons rfl (Sub.cons rfl (Sub.cons rfl (Sub.cons rfl Sub.nil)))))) ?_
              clear hS
              rintro e w n ⟨j, rfl, hj, rfl, hS⟩
              refine cw_seq ?_
              refine cw_region ?_
              -- r12.0 t67 := lss t66 t65
              refine ol_pure rfl (op_lss rfl rfl) ?_
              refine ol_nil ?_
              refine pq_then ?_
              refine cw_seq ?_
              refine cw_cond rfl (fun h67 => ?_) (fun h67 => ?_)
              · skip
                try simp only [decide_eq_true_eq, decide_eq_false_iff_not, Bool.not_eq_true', Bool.not_eq_false', Bool.not_eq_eq_eq_not, Bool.not_true, Bool.not_false] at h67
                have hjl : j < s.atoms.length := by omega
                obtain ⟨hoS, hcS, _⟩ := h1.int hjl
                have hin := ((setOpen_iff.1 (stepOk_set hso)).1 _ (List.getElem_mem hjl)).1
                have hrl : s.atoms[j].toNat * 1 < ((setAll m (s.atoms.take j) (if 0 ≤ s.rule then (2 : Int) else 0)).map (Value.int .i64)).length := by simp [setAll_len]; omega
                have hoT := (hS.news (j := 2) rfl _ _ (List.getElem?_eq_getElem hrl)).1
                refine cw_skip ?_
                refine pq_then ?_
                refine cw_seq ?_
                refine cw_block ?_
                refine cw_seq ?_
                refine cw_region ?_
                -- r13.0 t68 := indexAddr [29] t64 t66
                refine ol_pure rfl (op_indexN sl_29 rfl rfl (by omega) (by assumption)) ?_
                -- r13.1 t69 := load [3] t68
                refine ol_load rfl (op_load1 one_3 rfl (fun w hw => by first | exact hw.gcell (by assumption) | exact hw.gcell0 (by assumption))) hS ?_
                -- r13.2 t8 := assign  t69
                refine ol_pure rfl (op_assign rfl) ?_
                refine ol_nil ?_
                refine pq_then ?_
                refine cw_region ?_
                -- r14.0 t70 := move  t0
                refine ol_pure rfl (op_move rfl) ?_
                -- r14.1 t71 := nilCheck  t70
                refine ol_pure rfl (op_nilCheck rfl) ?_
                -- r14.2 t72 := fieldAddr [56, 1] t71
                refine ol_pure rfl (op_fieldAddr fld_56_1 rfl) ?_
                -- r14.3 t73 := load [29] t72
                refine ol_load rfl (op_load1 one_29 rfl (fun w hw => (hw.bcell (i := 1) rfl).trans rfl)) hS ?_
                -- r14.4 t74 := move  t8
                refine ol_pure rfl (op_move rfl) ?_
                -- r14.5 t75 := move  t5
                refine ol_pure rfl (op_move rfl) ?_
                -- r14.6 t76 := indexAddr [29] t73 t74
                refine ol_pure rfl (op_indexAddr sl_29 rfl rfl (by omega) (by omega) hoT) ?_
                -- r14.7 _ := store [3] t76 t75
                refine ol_step0  (op_storeR (j := 2) (k := s.atoms[j].toNat * 1) hS sz_3 rfl rfl rfl rfl (hrl)) ?_
                clear hS
                rintro _ w hS; (try simp only [List.nil_append, List.cons_append, List.set] at hS)
                have hsn := setAll_snoc m s.atoms (if 0 ≤ s.rule then (2 : Int) else 0) hjl
                rw [htv] at hS hsn
                rw [Nat.mul_one, ← List.map_set, ← hsn, ← htv] at hS
                refine ol_nil ?_
                refine pq_in_normal ?_
                refine pq_then ?_
                refine cw_region ?_
                -- r15.0 t77 := add t66 C1
                refine ol_pure rfl (op_add rfl rfl (by omega) (by omega)) ?_
                -- r15.1 t66 := move  t77
                refine ol_pure rfl (op_move rfl) ?_
                refine ol_nil ?_
                -- end of round 1 h15f h20f h9f h31t h51f h56f h67t
                refine pq_loop _ _ (by exact ⟨j + 1, rfl, by omega, rfl, hS⟩) ((Sub.cons rfl (Sub.cons rfl (Sub.cons rfl (Sub.cons rfl (Sub.cons rfl Sub.nil)))))) (by omega)
              · skip
                try simp only [decide_eq_true_eq, decide_eq_false_iff_not, Bool.not_eq_true', Bool.not_eq_false', Bool.not_eq_eq_eq_not, Bool.not_true, Bool.not_false] at h67
                refine cw_exit ?_
                refine pq_exit ?_
                refine pq_exit ?_
                refine pq_in_exit ?_
                refine pq_then ?_
                refine cw_seq ?_
                refine cw_region ?_
                -- r16.0 t4 := assign  Ctrue
                refine ol_pure rfl (op_assign rfl) ?_
                refine ol_nil ?_
                refine pq_then ?_
                refine cw_ret ?_
                refine ret1 rfl rfl ?_
                -- ret4 h15f h20f h9f h31t h51f h56f h67f
                rw [List.take_of_length_le (show s.atoms.length ≤ j by omega)] at hS
                replace hS := SS.drop [] hS
                refine ⟨by rw [hso], ?_⟩
                rw [hso, if_pos rfl]
                unfold CoM
                rw [tellI_len]
                exact hS
        · skip
          try simp only [decide_eq_true_eq, decide_eq_false_iff_not, Bool.not_eq_true', Bool.not_eq_false', Bool.not_eq_eq_eq_not, Bool.not_true, Bool.not_false] at h31
          have hm1 : s.rule = -1 := by omega
          have hby := stepOk_byset (rs := rs) (m := m) hm1
          have htv : (if 0 ≤ s.rule then (2 : Int) else 0) = 0 := if_neg (by omega)
          refine cw_seq ?_
          refine cw_region ?_
          -- r9.0 t58 := move  t0
          refine ol_pure rfl (op_move rfl) ?_
          -- r9.1 t59 := fieldAddr [44, 1] t3
          refine ol_pure rfl (op_fieldAddr fld_44_1 rfl) ?_
          -- r9.2 t60 := load [29] t59
          refine ol_load rfl (op_load1 one_29 rfl (fun w hw => (hw.bcell (i := 0) rfl).trans rfl)) hS ?_
          -- r9.3 t61 := call f69 t58 t60
          refine ol_step rfl (op_call_sc hS cf_69 rfl (judge_court_unfounded_c (fullG _) _ (Holds.full _) b vA _ _ m (hS.coR (i := 1) rfl) (hS.coT hmb (i := 2) rfl rfl) rs (hR.mono ERule.mono hS.hold.le_full) hok _ s.atoms (h1.mono EInt.mono hS.hold.le_full))) ?_
          clear hS
          rintro _ w ⟨rfl, hS⟩
          -- r9.4 t62 := not t61
          refine ol_pure rfl (op_not rfl) ?_
          -- r9.5 t57 := assign  t62
          refine ol_pure rfl (op_assign rfl) ?_
          refine ol_nil ?_
          refine pq_then ?_
          refine cw_cond rfl (fun h57 => ?_) (fun h57 => ?_)
          · skip
            try simp only [decide_eq_true_eq, decide_eq_false_iff_not, Bool.not_eq_true', Bool.not_eq_false', Bool.not_eq_eq_eq_not, Bool.not_true, Bool.not_false] at h57
            have hso : stepOk rs m s = false := by rw [hby]; simp_all
            refine cw_seq ?_
            refine cw_region ?_
            -- r10.0 t4 := assign  Cfalse
            refine ol_pure rfl (op_assign rfl) ?_
            refine ol_nil ?_
            refine pq_then ?_
            refine cw_ret ?_
            refine pq_in_ret ?_
            refine pq_ret ?_
            refine ret1 rfl rfl ?_
            -- ret3 h15f h20f h9f h31f h57t
            replace hS := SS.drop [] hS
            refine ⟨by rw [hso], ?_⟩
            rw [hso, if_neg (by decide)]
            unfold CoM
            exact hS
          · skip
            try simp only [decide_eq_true_eq, decide_eq_false_iff_not, Bool.not_eq_true', Bool.not_eq_false', Bool.not_eq_eq_eq_not, Bool.not_true, Bool.not_false] at h57
            have hso : stepOk rs m s = true := by rw [hby]; simp_all
            refine cw_skip ?_
            refine pq_in_normal ?_
            refine pq_then ?_
            refine cw_seq ?_
            refine cw_seq ?_
            refine cw_region ?_
            -- r11.0 t63 := fieldAddr [44, 1] t3
            refine ol_pure rfl (op_fieldAddr fld_44_1 rfl) ?_
            -- r11.1 t64 := load [29] t63
            refine ol_load rfl (op_load1 one_29 rfl (fun w hw => (hw.bcell (i := 0) rfl).trans rfl)) hS ?_
            -- r11.2 t65 := call len t64
            refine ol_pure rfl (op_len sl_29 rfl rfl) ?_
            -- r11.3 t66 := move  C0
            refine ol_pure rfl (op_move rfl) ?_
            refine ol_nil ?_
            refine pq_then ?_
            refine cw_block ?_
            refine cw_loop (fun e w n => ∃ j : Nat, e = [(0, .pointer (some ⟨b, 0, none⟩)), (5, .int .i64 (0)), (64, .slice oS s.atoms.length cS), (65, .int .i64 (s.atoms.length : Nat)), (66, .int .i64 (j : Nat))] ∧ j ≤ s.atoms.length ∧ n = s.atoms.length - j ∧ SS G0 w0 G (.blk b3 44 [.int .i64 s.rule, .slice oS s.atoms.length cS] :: .blk b 56 [vA, .slice oR rs.length cR, .slice oT m.length cT] :: .row oT m.length cT 3 1 ((setAll m (s.atoms.take j) (if 0 ≤ s.rule then (2 : Int) else 0)).map (Value.int .i64)) :: M) w) _ _ (by exact ⟨0, rfl, Nat.zero_le _, rfl, hS⟩) ((Sub.cons rfl (Sub.cons rfl (Sub.cons rfl (Sub.cons rfl (Sub.cons rfl Sub.nil)))))) ?_
            clear hS
            rintro e w n ⟨j, rfl, hj, rfl, hS⟩
            refine cw_seq ?_
            refine cw_region ?_
            -- r12.0 t67 := lss t66 t65
            refine ol_pure rfl (op_lss rfl rfl) ?_
            refine ol_nil ?_
            refine pq_then ?_
            refine cw_seq ?_
            refine cw_cond rfl (fun h67 => ?_) (fun h67 => ?_)
            · skip
              try simp only [decide_eq_true_eq, decide_eq_false_iff_not, Bool.not_eq_true', Bool.not_eq_false', Bool.not_eq_eq_eq_not, Bool.not_true, Bool.not_false] at h67
              have hjl : j < s.atoms.length := by omega
              obtain ⟨hoS, hcS, _⟩ := h1.int hjl
              have hin := ((setOpen_iff.1 (stepOk_set hso)).1 _ (List.getElem_mem hjl)).1
              have hrl : s.atoms[j].toNat * 1 < ((setAll m (s.atoms.take j) (if 0 ≤ s.rule then (2 : Int) else 0)).map (Value.int .i64)).length := by simp [setAll_len]; omega
              have hoT := (hS.news (j := 2) rfl _ _ (List.getElem?_eq_getElem hrl)).1
              refine cw_skip ?_
              refine pq_then ?_
              refine cw_seq ?_
              refine cw_block ?_
              refine cw_seq ?_
              refine cw_region ?_
              -- r13.0 t68 := indexAddr [29] t64 t66
              refine ol_pure rfl (op_indexN sl_29 rfl rfl (by omega) (by assumption)) ?_
              -- r13.1 t69 := load [3] t68
              refine ol_load rfl (op_load1 one_3 rfl (fun w hw => by first | exact hw.gcell (by assumption) | exact hw.gcell0 (by assumption))) hS ?_
              -- r13.2 t8 := assign  t69
              refine ol_pure rfl (op_assign rfl) ?_
              refine ol_nil ?_
              refine pq_then ?_
              refine cw_region ?_
              -- r14.0 t70 := move  t0
              refine ol_pure rfl (op_move rfl) ?_
              -- r14.1 t71 := nilCheck  t70
              refine ol_pure rfl (op_nilCheck rfl) ?_
              -- r14.2 t72 := fieldAddr [56, 1] t71
              refine ol_pure rfl (op_fieldAddr fld_56_1 rfl) ?_
              -- r14.3 t73 := load [29] t72
              refine ol_load rfl (op_load1 one_29 rfl (fun w hw => (hw.bcell (i := 1) rfl).trans rfl)) hS ?_
              -- r14.4 t74 := move  t8
              refine ol_pure rfl (op_move rfl) ?_
              -- r14.5 t75 := move  t5
              refine ol_pure rfl (op_move rfl) ?_
              -- r14.6 t76 := indexAddr [29] t73 t74
              refine ol_pure rfl (op_indexAddr sl_29 rfl rfl (by omega) (by omega) hoT) ?_
              -- r14.7 _ := store [3] t76 t75
              refine ol_step0  (op_storeR (j := 2) (k := s.atoms[j].toNat * 1) hS sz_3 rfl rfl rfl rfl (hrl)) ?_
              clear hS
              rintro _ w hS; (try simp only [List.nil_append, List.cons_append, List.set] at hS)
              have hsn := setAll_snoc m s.atoms (if 0 ≤ s.rule then (2 : Int) else 0) hjl
              rw [htv] at hS hsn
              rw [Nat.mul_one, ← List.map_set, ← hsn, ← htv] at hS
              refine ol_nil ?_
              refine pq_in_normal ?_
              refine pq_then ?_
              refine cw_region ?_
              -- r15.0 t77 := add t66 C1
              refine ol_pure rfl (op_add rfl rfl (by omega) (by omega)) ?_
              -- r15.1 t66 := move  t77
              refine ol_pure rfl (op_move rfl) ?_
              refine ol_nil ?_
              -- end of round 1 h15f h20f h9f h31f h57f h67t
              refine pq_loop _ _ (by exact ⟨j + 1, rfl, by omega, rfl, hS⟩) ((Sub.cons rfl (Sub.cons rfl (Sub.cons rfl (Sub.cons rfl (Sub.cons rfl Sub.nil)))))) (by omega)
            · skip
              try simp only [decide_eq_true_eq, decide_eq_false_iff_not, Bool.not_eq_true', Bool.not_eq_false', Bool.not_eq_eq_eq_not, Bool.not_true, Bool.not_false] at h67
              refine cw_exit ?_
              refine pq_exit ?_
              refine pq_exit ?_
              refine pq_in_exit ?_
              refine pq_then ?_
              refine cw_seq ?_
              refine cw_region ?_
              -- r16.0 t4 := assign  Ctrue
              refine ol_pure rfl (op_assign rfl) ?_
              refine ol_nil ?_
              refine pq_then ?_
              refine cw_ret ?_
              refine ret1 rfl rfl ?_
              -- ret4 h15f h20f h9f h31f h57f h67f
              rw [List.take_of_length_le (show s.atoms.length ≤ j by omega)] at hS
              replace hS := SS.drop [] hS
              refine ⟨by rw [hso], ?_⟩
              rw [hso, if_pos rfl]
              unfold CoM
              rw [tellI_len]
              exact hS
set_option maxRecDepth 100000 in
set_option maxHeartbeats 1000000 in

theorem judge_court_steps_c {G0 G : GH} {w0 w : World} {M : List Ent} {b : Nat} {vA vR : Value} {oT : Option Addr} {cT : Nat} {m : List Int} (hS : SS G0 w0 G (CoM b vA vR oT cT m ++ M) w) (hmb : ∀ x ∈ m, 0 ≤ x ∧ x ≤ 2) (rs : List Rule) (hR : RSl 3 ERule G vR rs) (hok : ∀ r ∈ rs, RuleOk m.length r) (v : Value) (l : List Step) (h1 : RSl 2 EStep G v l) :
    Calls Try.prog 30 #[.pointer (some ⟨b, 0, none⟩), v] w (fun en w' => en = .returned (.int .i64 ((partly rs m l).2 : Nat)) ∧ SS G0 w0 G (CoM b vA vR oT cT (partly rs m l).1 ++ M) w') := by
  obtain ⟨oL, cL, rfl, hlL, hmL⟩ := h1.elim
  have hLle := h1.le
  refine enter Try.func30 rfl (N := 22) rfl (Nat.le_of_ble_eq_true rfl) ?_
  skip
  refine cw_seq ?_
  refine cw_region ?_
  -- r0.0 t4 := assign  C0
  refine ol_pure rfl (op_assign rfl) ?_
  refine ol_nil ?_
  refine pq_then ?_
  refine cw_seq ?_
  refine cw_seq ?_
  refine cw_region ?_
  -- r1.0 t7 := move  t1
  refine ol_pure rfl (op_move rfl) ?_
  -- r1.1 t8 := call len t7
  refine ol_pure rfl (op_len sl_28 rfl rfl) ?_
  -- r1.2 t9 := move  C0
  refine ol_pure rfl (op_move rfl) ?_
  refine ol_nil ?_
  refine pq_then ?_
  refine cw_block ?_
  refine cw_loop (fun e w n => ∃ (k : Nat) (mk : List Int), e = [(0, .pointer (some ⟨b, 0, none⟩)), (1, .slice oL l.length cL), (7, .slice oL l.length cL), (8, .int .i64 (l.length : Nat)), (9, .int .i64 (k : Nat))] ∧ k ≤ l.length ∧ n = l.length - k ∧ mk.length = m.length ∧ (∀ x ∈ mk, 0 ≤ x ∧ x ≤ 2) ∧ (partly rs m l).1 = (partly rs mk (l.drop k)).1 ∧ (partly rs m l).2 = k + (partly rs mk (l.drop k)).2 ∧ SS G0 w0 G (CoM b vA vR oT cT mk ++ M) w) _ _ (by exact ⟨0, m, rfl, Nat.zero_le _, rfl, rfl, hmb, rfl, by simp, hS⟩) ((Sub.cons rfl (Sub.cons rfl (Sub.cons rfl (Sub.cons rfl (Sub.cons rfl Sub.nil)))))) ?_
  clear hS
  rintro e w n ⟨k, mk, rfl, hk, rfl, hmkl, hmkb, e1, e2, hS⟩
  refine cw_seq ?_
  refine cw_region ?_
  -- r2.0 t10 := lss t9 t8
  refine ol_pure rfl (op_lss rfl rfl) ?_
  refine ol_nil ?_
  refine pq_then ?_
  refine cw_seq ?_
  refine cw_cond rfl (fun h10 => ?_) (fun h10 => ?_)
  · skip
    try simp only [decide_eq_true_eq, decide_eq_false_iff_not, Bool.not_eq_true', Bool.not_eq_false', Bool.not_eq_eq_eq_not, Bool.not_true, Bool.not_false] at h10
    have hlt : k < l.length := by omega
    obtain ⟨hoa, cs, hcl, ⟨va, rfl, hva, hsb⟩, hcells⟩ := h1.el hlt
    have hgo := partly_go (rs := rs) (m := mk) hlt
    have hst := partly_stop (rs := rs) (m := mk) hlt
    have hmt := tellI_mem (s := l[k]) hmkb
    refine cw_skip ?_
    refine pq_then ?_
    refine cw_seq ?_
    refine cw_block ?_
    refine cw_seq ?_
    refine cw_region ?_
    -- r3.0 t11 := move  t9
    refine ol_pure rfl (op_move rfl) ?_
    -- r3.1 t12 := indexAddr [28] t7 t9
    refine ol_pure rfl (op_indexN sl_28 rfl rfl (by omega) (by assumption)) ?_
    -- r3.2 t13 := load [44] t12
    refine ol_load rfl (op_loadN agg_44 rfl (by rfl) (fun w hw k u hk => hw.gcell (hcells k u hk))) hS ?_
    -- r3.3 t6 := alloc [44] 
    refine ol_step rfl (op_alloc hS el_44 rfl) ?_
    clear hS
    rintro _ w ⟨b6, rfl, hS⟩
    -- r3.4 t5 := assign  t11
    refine ol_pure rfl (op_assign rfl) ?_
    -- r3.5 _ := store [44] t6 t13
    refine ol_step0  (op_storeN (j := 0) hS sz_44 rfl rfl rfl rfl rfl (by intro v hv; rcases List.mem_cons.1 hv with rfl | hv; rfl; rcases List.mem_cons.1 hv with rfl | hv; exact hva.one; cases hv)) ?_
    clear hS
    rintro _ w hS; (try simp only [List.nil_append, List.cons_append, List.set] at hS)
    refine ol_nil ?_
    refine pq_then ?_
    refine cw_seq ?_
    refine cw_region ?_
    -- r4.0 t14 := move  t0
    refine ol_pure rfl (op_move rfl) ?_
    -- r4.1 t15 := load [44] t6
    refine ol_load rfl (op_loadN agg_44 rfl (by rfl) (fun w hw k u hk => (hw.bcell (i := 0) rfl).trans hk)) hS ?_
    -- r4.2 t16 := call f50 t14 t15
    have hS2 := SS.back1 (CoM b vA vR oT cT mk) hS
    refine ol_step rfl (op_callu cf_50 rfl (judge_court_step_c hS2 hmkb rs hR (by rw [hmkl]; exact hok) l[k] va hva hsb)) ?_
    clear hS
    rintro _ w ⟨rfl, hS⟩
    -- r4.3 t17 := not t16
    refine ol_pure rfl (op_not rfl) ?_
    refine ol_nil ?_
    refine pq_then ?_
    refine cw_cond rfl (fun h17 => ?_) (fun h17 => ?_)
    · skip
      try simp only [decide_eq_true_eq, decide_eq_false_iff_not, Bool.not_eq_true', Bool.not_eq_false', Bool.not_eq_eq_eq_not, Bool.not_true, Bool.not_false] at h17
      have hso : stepOk rs mk l[k] = false := by simpa using h17
      replace hS := SS.drop [] (SS.front1 _ hS)
      rw [hso, if_neg (by decide)] at hS
      simp only [List.nil_append] at hS
      refine cw_seq ?_
      refine cw_region ?_
      -- r5.0 t18 := move  t5
      refine ol_pure rfl (op_move rfl) ?_
      -- r5.1 t4 := assign  t18
      refine ol_pure rfl (op_assign rfl) ?_
      refine ol_nil ?_
      refine pq_then ?_
      refine cw_ret ?_
      refine pq_in_ret ?_
      refine pq_ret ?_
      refine pq_ret ?_
      refine pq_in_ret ?_
      refine pq_ret ?_
      refine ret1 rfl rfl ?_
      -- ret1 h10t h17t
      rw [hst hso] at e1 e2
      refine ⟨by rw [e2]; rfl, ?_⟩
      rw [e1]
      exact hS
    · skip
      try simp only [decide_eq_true_eq, decide_eq_false_iff_not, Bool.not_eq_true', Bool.not_eq_false', Bool.not_eq_eq_eq_not, Bool.not_true, Bool.not_false] at h17
      have hso : stepOk rs mk l[k] = true := by simpa using h17
      replace hS := SS.drop [] (SS.front1 _ hS)
      rw [hso, if_pos rfl] at hS
      simp only [List.nil_append] at hS
      refine cw_skip ?_
      refine pq_in_normal ?_
      refine pq_then ?_
      refine cw_region ?_
      -- r6.0 t19 := add t9 C1
      refine ol_pure rfl (op_add rfl rfl (by omega) (by omega)) ?_
      -- r6.1 t9 := move  t19
      refine ol_pure rfl (op_move rfl) ?_
      refine ol_nil ?_
      -- end of round 1 h10t h17f
      refine pq_loop _ _ (by exact ⟨k + 1, tellI mk l[k], rfl, by omega, rfl, by rw [tellI_len, hmkl], hmt, by rw [e1, (hgo hso).1], by rw [e2, (hgo hso).2]; omega, hS⟩) ((Sub.cons rfl (Sub.cons rfl (Sub.cons rfl (Sub.cons rfl (Sub.cons rfl Sub.nil)))))) (by omega)
  · skip
    try simp only [decide_eq_true_eq, decide_eq_false_iff_not, Bool.not_eq_true', Bool.not_eq_false', Bool.not_eq_eq_eq_not, Bool.not_true, Bool.not_false] at h10
    refine cw_exit ?_
    refine pq_exit ?_
    refine pq_exit ?_
    refine pq_in_exit ?_
    refine pq_then ?_
    refine cw_seq ?_
    refine cw_region ?_
    -- r7.0 t20 := move  t1
    refine ol_pure rfl (op_move rfl) ?_
    -- r7.1 t21 := call len t20
    refine ol_pure rfl (op_len sl_28 rfl rfl) ?_
    -- r7.2 t4 := assign  t21
    refine ol_pure rfl (op_assign rfl) ?_
    refine ol_nil ?_
    refine pq_then ?_
    refine cw_ret ?_
    refine ret1 rfl rfl ?_
    -- ret2 h10f
    rw [partly_end (show l.length ≤ k by omega)] at e1 e2
    refine ⟨by rw [e2, show k = l.length from by omega]; rfl, ?_⟩
    rw [e1]
    exact hS
set_option maxRecDepth 100000 in
set_option maxHeartbeats 1000000 in

theorem judge_Partly_c (G : GH) (w0 : World) (hG : Holds G w0) {α : Type} {E : ER α} (va vr : Value) (atoms : List α) (rs : List Rule) (hA : RSl 1 E G va atoms) (hR : RSl 3 ERule G vr rs) (hP : PrOk atoms.length rs) (v : Value) (l : List Step) (h1 : RSl 2 EStep G v l) :
    Calls Try.prog 19 #[.agg #[va, vr], v] w0 (Rt noG w0 (fun G v => ∃ vm, v = .tuple #[vm, .int .i64 ((partly rs (startI atoms.length) l).2 : Nat)] ∧ RSl 1 EInt G vm (partly rs (startI atoms.length) l).1)) := by
  obtain ⟨oR, cR, rfl, hlR, hmR⟩ := hR.elim
  have hRle := hR.le
  have hPn := hP.n_le
  have hok : ∀ r ∈ rs, RuleOk (startI atoms.length).length r := fun r hr => by rw [show (startI atoms.length).length = atoms.length from by simp [startI]]; exact (hP.rule r hr).1
  have hAo := hA.one
  obtain ⟨oL, cL, rfl, hlL, hmL⟩ := h1.elim
  refine enter Try.func19 rfl (N := 18) rfl (Nat.le_of_ble_eq_true rfl) ?_
  have hS := SS.init hG
  refine cw_seq ?_
  refine cw_region ?_
  -- r0.0 t2 := box [25] t0
  refine ol_step rfl (op_box hS rfl rfl) ?_
  clear hS
  rintro _ w ⟨b2, rfl, hS⟩
  -- r0.1 t4 := assign  C(slice (none Addr) 0 0)
  refine ol_pure rfl (op_assign rfl) ?_
  -- r0.2 t5 := assign  C0
  refine ol_pure rfl (op_assign rfl) ?_
  refine ol_nil ?_
  refine pq_then ?_
  refine cw_seq ?_
  refine cw_region ?_
  -- r1.0 t8 := load [25] t2
  refine ol_load rfl (op_loadN agg_25 rfl (by rfl) (fun w hw k u hk => (hw.bcell (i := 0) rfl).trans hk)) hS ?_
  -- r1.1 t9 := call f27 t8
  refine ol_step rfl (op_call (R := fun v w' => ∃ b oT cT G', v = .pointer (some ⟨b, 0, none⟩) ∧ Le G G' ∧ SS G w0 G' (CoM b va _ oT cT (startI atoms.length) ++ [.blk b2 25 [va, .slice oR rs.length cR]]) w') cf_27 rfl ((judge_open_c hS va _ atoms hA ⟨_, _, _, rfl⟩ hPn).mono fun _ _ ⟨b, oT, cT, G', e1, e2, e3⟩ => ⟨_, e1, b, oT, cT, G', rfl, e2, e3⟩)) ?_
  clear hS
  rintro _ w ⟨b, oT, cT, G1, rfl, hl1, hS⟩
  -- r1.2 t6 := assign  t9
  refine ol_pure rfl (op_assign rfl) ?_
  refine ol_nil ?_
  refine pq_then ?_
  refine cw_seq ?_
  refine cw_region ?_
  -- r2.0 t10 := move  t6
  refine ol_pure rfl (op_move rfl) ?_
  -- r2.1 t11 := move  t1
  refine ol_pure rfl (op_move rfl) ?_
  -- r2.2 t12 := call f30 t10 t11
  refine ol_step rfl (op_callu cf_30 rfl (judge_court_steps_c hS startI_mem rs (hR.mono ERule.mono hl1) hok _ l (h1.mono EStep.mono hl1))) ?_
  clear hS
  rintro _ w ⟨rfl, hS⟩
  -- r2.3 t7 := assign  t12
  refine ol_pure rfl (op_assign rfl) ?_
  refine ol_nil ?_
  refine pq_then ?_
  refine cw_seq ?_
  refine cw_region ?_
  -- r3.0 t13 := move  t6
  refine ol_pure rfl (op_move rfl) ?_
  -- r3.1 t14 := nilCheck  t13
  refine ol_pure rfl (op_nilCheck rfl) ?_
  -- r3.2 t15 := fieldAddr [56, 1] t14
  refine ol_pure rfl (op_fieldAddr fld_56_1 rfl) ?_
  -- r3.3 t16 := load [29] t15
  refine ol_load rfl (op_load1 one_29 rfl (fun w hw => (hw.bcell (i := 0) (k := 2) rfl).trans rfl)) hS ?_
  -- r3.4 t17 := move  t7
  refine ol_pure rfl (op_move rfl) ?_
  -- r3.5 t4 := assign  t16
  refine ol_pure rfl (op_assign rfl) ?_
  -- r3.6 t5 := assign  t17
  refine ol_pure rfl (op_assign rfl) ?_
  refine ol_nil ?_
  refine pq_then ?_
  refine cw_ret ?_
  refine ret2 rfl rfl rfl ?_
  -- ret1 
  have hmem : ∀ x ∈ (partly rs (startI atoms.length) l).1, 0 ≤ x ∧ x ≤ 2 := partly_mem l startI_mem
  unfold CoM at hS
  obtain ⟨F2, G2, hF, hn, hf, hl, hS2⟩ := SS.give_fr (partly rs (startI atoms.length) l).1 [_] EInt.mono hS (by decide) (Rows.ints fun x hx => by have := hmem x hx; omega) rfl
  exact hS2.rt_fr hf hn ⟨_, rfl, hF⟩
set_option maxRecDepth 100000 in

theorem judge_Check_1_c (G : GH) (w0 : World) (hG : Holds G w0) (b : Nat) (vA vR vT : Value) (m : List Int) (hc : CoR G b vA vR vT) (hTo : RSl 1 EInt G vT m) (b6 : Nat) (hb6 : gcell G ⟨b6, 0, none⟩ = some (.pointer (some ⟨b, 0, none⟩))) (r : Rule) (p q : Value) (h1 : RSl 1 EInt G p r.pos) (h2 : RSl 1 EInt G q r.neg) (hr : RuleOk m.length r) :
    Calls Try.prog 28 #[.agg #[.int .i64 r.head, p, q], .pointer (some ⟨b6, 0, none⟩)] w0 (Sc w0 (.bool (decide (valI m r.head = 1) && firesB m r))) := by
  obtain ⟨op, cp, rfl, hlp, hmp⟩ := h1.elim
  obtain ⟨oq, cq, rfl, hlq, hmq⟩ := h2.elim
  obtain ⟨oT, cT, rfl, hlT, hmT⟩ := hTo.elim
  obtain ⟨hd, hhe⟩ := Int.eq_ofNat_of_zero_le hr.1.1
  have hhn : hd < m.length := by have := hr.1.2; omega
  obtain ⟨hoT, hcT, _⟩ := hTo.int hhn
  have hvh : valI m r.head = m[hd] := by rw [hhe]; exact val_at hhn
  have hhb := hr.1
  refine enter Try.func28 rfl (N := 18) rfl (Nat.le_of_ble_eq_true rfl) ?_
  have hS := SS.init hG
  refine cw_seq ?_
  refine cw_region ?_
  -- r0.0 t2 := box [48] t0
  refine ol_step rfl (op_box hS rfl rfl) ?_
  clear hS
  rintro _ w ⟨b2, rfl, hS⟩
  -- r0.1 t3 := assign  Cfalse
  refine ol_pure rfl (op_assign rfl) ?_
  refine ol_nil ?_
  refine pq_then ?_
  refine cw_seq ?_
  refine al_start' hS (hS.take 1) (by kernel_rfl) rfl (fun w hS hT => ?_)
  -- r1.0 t4 := load [53] t1
  refine al_load (i := 0) rfl (by kernel_rfl) (by kernel_rfl) (by kernel_rfl) rfl (fun _ _ _ h => h) (by exact op_load1 one_53 rfl (fun w hw => hw.gcell hb6)) rfl hT ?_
  -- r1.1 t5 := nilCheck  t4
  refine al_take (i := 1) rfl (by kernel_rfl) (by kernel_rfl) (by kernel_rfl) rfl (fun _ _ _ h => h) (op_nilCheck rfl) rfl ?_
  -- r1.2 t6 := fieldAddr [56, 1] t5
  refine al_take (i := 2) rfl (by kernel_rfl) (by kernel_rfl) (by kernel_rfl) rfl (fun _ _ _ h => h) (op_fieldAddr fld_56_1 rfl) rfl ?_
  -- r1.3 t7 := load [29] t6
  refine al_load (i := 3) rfl (by kernel_rfl) (by kernel_rfl) (by kernel_rfl) rfl (fun _ _ _ h => h) (by exact op_load1 one_29 rfl (fun w hw => hw.gcell hc.c2)) rfl hT ?_
  -- r1.4 t8 := fieldAddr [48, 0] t2
  refine al_take (i := 4) rfl (by kernel_rfl) (by kernel_rfl) (by kernel_rfl) rfl (fun _ _ _ h => h) (op_fieldAddr fld_48_0 rfl) rfl ?_
  -- r1.5 t9 := load [3] t8
  refine al_load (i := 5) rfl (by kernel_rfl) (by kernel_rfl) (by kernel_rfl) rfl (fun _ _ _ h => h) (by exact op_load1 one_3 rfl (fun w hw => (hw.bcell (i := 0) rfl).trans rfl)) rfl hT ?_
  -- r1.6 t10 := indexAddr [29] t7 t9
  refine al_take (i := 6) rfl (by kernel_rfl) (by kernel_rfl) (by kernel_rfl) rfl (fun _ _ _ h => h) (op_indexAddr sl_29 rfl rfl (by omega) (by omega) hoT) rfl ?_
  -- r1.7 t11 := load [3] t10
  refine al_load (i := 7) rfl (by kernel_rfl) (by kernel_rfl) (by kernel_rfl) rfl (fun _ _ _ h => h) (by exact op_load1 one_3 rfl (fun w hw => hw.gcell (by rw [hhe]; exact hcT))) rfl hT ?_
  -- r1.8 t12 := eql t11 C1
  refine al_take (i := 8) rfl (by kernel_rfl) (by kernel_rfl) (by kernel_rfl) rfl (fun _ _ _ h => h) (op_eql rfl rfl) rfl ?_
  -- r1.9 t13 := move  t12
  refine al_take (i := 9) rfl (by kernel_rfl) (by kernel_rfl) (by kernel_rfl) rfl (fun _ _ _ h => h) (op_move rfl) rfl ?_
  refine al_split (fun h13 => ?_) (fun h13 => ?_)
  · skip
    try simp only [decide_eq_true_eq, decide_eq_false_iff_not, Bool.not_eq_true', Bool.not_eq_false', Bool.not_eq_eq_eq_not, Bool.not_true, Bool.not_false] at h13
    -- r1.10 t14 := load [53] t1 ?9=True
    refine al_gload (i := 10) rfl (by kernel_rfl) (by kernel_rfl) (by kernel_rfl) rfl rfl rfl (fun _ _ _ h => h) (by exact op_load1 one_53 rfl (fun w hw => hw.gcell hb6)) rfl hT ?_
    -- r1.11 t15 := load [48] t2 ?9=True
    refine al_gload (i := 11) rfl (by kernel_rfl) (by kernel_rfl) (by kernel_rfl) rfl rfl rfl (fun _ _ _ h => h) (by exact op_loadN agg_48 rfl (by rfl) (fun w hw k u hk => (hw.bcell (i := 0) rfl).trans hk)) rfl hT ?_
    refine al_gstep (i := 12) rfl (by kernel_rfl) rfl rfl rfl (op_call_sc hS cf_29 rfl (judge_court_fires_c G _ hS.hold b vA vR _ m hc hTo r _ _ h1 h2 hr)) ?_
    clear hS
    rintro _ w ⟨rfl, hS⟩
    have hT := hT.back hS (by first | exact Le.refl _ | assumption) (fun x hx => by try simp only [List.take_succ_cons, List.take_zero, List.mem_cons, List.not_mem_nil, or_false] at hx; (rcases hx with rfl) <;> simp)
    refine ⟨fun _ _ => hT, ?_⟩
    -- r1.13 t17 := pick  t13 t16 Cfalse
    refine al_take (i := 13) rfl (by kernel_rfl) (by kernel_rfl) (by kernel_rfl) rfl (fun _ _ _ h => h) (op_pick_t rfl rfl) rfl ?_
    -- r1.14 t3 := assign  t17
    refine al_take (i := 14) rfl (by kernel_rfl) (by kernel_rfl) (by kernel_rfl) rfl (fun _ _ _ h => h) (op_assign rfl) rfl ?_
    refine al_done (by kernel_rfl) ?_
    refine pq_then ?_
    refine cw_ret ?_
    refine ret1 rfl rfl ?_
    -- ret1 h13t
    exact hS.sc_b (by rw [hvh, decide_eq_true h13]; rfl)
  · skip
    try simp only [decide_eq_true_eq, decide_eq_false_iff_not, Bool.not_eq_true', Bool.not_eq_false', Bool.not_eq_eq_eq_not, Bool.not_true, Bool.not_false] at h13
    refine al_gskip (i := 10) rfl (by kernel_rfl) (by kernel_rfl) (by kernel_rfl) rfl rfl rfl rfl (fun _ _ _ h => h) (fun _ => hT) ?_
    refine al_gskip (i := 11) rfl (by kernel_rfl) (by kernel_rfl) (by kernel_rfl) rfl rfl rfl rfl (fun _ _ _ h => h) (fun _ => hT) ?_
    refine al_gskip (i := 12) rfl (by kernel_rfl) (by kernel_rfl) (by kernel_rfl) rfl rfl rfl rfl (fun _ _ _ h => h) (fun _ => hT) ?_
    -- r1.13 t17 := pick  t13 t16 Cfalse
    refine al_take (i := 13) rfl (by kernel_rfl) (by kernel_rfl) (by kernel_rfl) rfl (fun _ _ _ h => h) (op_pick_f rfl rfl) rfl ?_
    -- r1.14 t3 := assign  t17
    refine al_take (i := 14) rfl (by kernel_rfl) (by kernel_rfl) (by kernel_rfl) rfl (fun _ _ _ h => h) (op_assign rfl) rfl ?_
    refine al_done (by kernel_rfl) ?_
    refine pq_then ?_
    refine cw_ret ?_
    refine ret1 rfl rfl ?_
    -- ret1 h13f
    exact hS.sc_b (by rw [hvh, decide_eq_false h13]; rfl)
set_option maxRecDepth 100000 in
set_option maxHeartbeats 2000000 in

theorem judge_Check_c (G : GH) (w0 : World) (hG : Holds G w0) {α : Type} {E : ER α} (va vr : Value) (atoms : List α) (rs : List Rule) (hA : RSl 1 E G va atoms) (hR : RSl 3 ERule G vr rs) (hP : PrOk atoms.length rs) (vs vh : Value) (l : List Step) (hs : List Int) (h1 : RSl 2 EStep G vs l) (h2 : RSl 1 EInt G vh hs) :
    Calls Try.prog 14 #[.agg #[va, vr], .agg #[vs, vh]] w0 (Rt noG w0 (fun G v => ∃ vm, v = .tuple #[vm, .bool (checkI rs atoms.length l hs).isSome] ∧ RSl 1 EInt G vm ((checkI rs atoms.length l hs).getD []))) := by
  obtain ⟨oR, cR, rfl, hlR, hmR⟩ := hR.elim
  have hRle := hR.le
  have hPn := hP.n_le
  have hok : ∀ r ∈ rs, RuleOk (startI atoms.length).length r := fun r hr => by rw [show (startI atoms.length).length = atoms.length from by simp [startI]]; exact (hP.rule r hr).1
  have hAo := hA.one
  obtain ⟨oL, cL, rfl, hlL, hmL⟩ := h1.elim
  obtain ⟨oH, cH, rfl, hlH, hmH⟩ := h2.elim
  have hle := partly_le (rs := rs) l (startI atoms.length)
  have hmem : ∀ x ∈ (partly rs (startI atoms.length) l).1, 0 ≤ x ∧ x ≤ 2 := partly_mem l startI_mem
  have hok1 : ∀ r ∈ rs, RuleOk (partly rs (startI atoms.length) l).1.length r := fun r hr => by rw [partly_len]; exact hok r hr
  refine enter Try.func14 rfl (N := 36) rfl (Nat.le_of_ble_eq_true rfl) ?_
  have hS := SS.init hG
  refine cw_seq ?_
  refine cw_region ?_
  -- r0.0 t2 := box [25] t0
  refine ol_step rfl (op_box hS rfl rfl) ?_
  clear hS
  rintro _ w ⟨b2, rfl, hS⟩
  -- r0.1 t3 := box [31] t1
  refine ol_step rfl (op_box hS rfl rfl) ?_
  clear hS
  rintro _ w ⟨b3, rfl, hS⟩
  -- r0.2 t4 := assign  C(slice (none Addr) 0 0)
  refine ol_pure rfl (op_assign rfl) ?_
  -- r0.3 t5 := assign  Cfalse
  refine ol_pure rfl (op_assign rfl) ?_
  refine ol_nil ?_
  refine pq_then ?_
  refine cw_seq ?_
  refine cw_region ?_
  -- r1.0 t8 := load [25] t2
  refine ol_load rfl (op_loadN agg_25 rfl (by rfl) (fun w hw k u hk => (hw.bcell (i := 1) rfl).trans hk)) hS ?_
  -- r1.1 t9 := call f27 t8
  refine ol_step rfl (op_call (R := fun v w' => ∃ b oT cT G', v = .pointer (some ⟨b, 0, none⟩) ∧ Le G G' ∧ SS G w0 G' (CoM b va _ oT cT (startI atoms.length) ++ [.blk b3 31 [.slice oL l.length cL, .slice oH hs.length cH], .blk b2 25 [va, .slice oR rs.length cR]]) w') cf_27 rfl ((judge_open_c hS va _ atoms hA ⟨_, _, _, rfl⟩ hPn).mono fun _ _ ⟨b, oT, cT, G', e1, e2, e3⟩ => ⟨_, e1, b, oT, cT, G', rfl, e2, e3⟩)) ?_
  clear hS
  rintro _ w ⟨b, oT, cT, G1, rfl, hl1, hS⟩
  replace hS := hS.perm List.perm_append_comm
  unfold CoM at hS
  simp only [List.cons_append, List.nil_append] at hS
  -- r1.2 t6 := alloc [53] 
  refine ol_step rfl (op_alloc hS el_53 rfl) ?_
  clear hS
  rintro _ w ⟨b6, rfl, hS⟩
  -- r1.3 _ := store [53] t6 t9
  refine ol_step0  (op_storeB0 (j := 0) hS sz_53 rfl rfl rfl rfl) ?_
  clear hS
  rintro _ w hS; (try simp only [List.nil_append, List.cons_append, List.set] at hS)
  refine ol_nil ?_
  refine pq_then ?_
  refine cw_seq ?_
  refine cw_region ?_
  -- r2.0 t10 := makeFunc (func 28) |t6
  refine ol_pure rfl (op_makeFunc rfl rfl) ?_
  -- r2.1 t7 := assign  t10
  refine ol_pure rfl (op_assign rfl) ?_
  refine ol_nil ?_
  refine pq_then ?_
  refine cw_seq ?_
  refine cw_seq ?_
  refine al_start' hS (hS.take 3) (by kernel_rfl) rfl (fun w hS hT => ?_)
  -- r3.0 t11 := load [53] t6
  refine al_load (i := 0) rfl (by kernel_rfl) (by kernel_rfl) (by kernel_rfl) rfl (fun _ _ _ h => h) (by exact op_load1 one_53 rfl (fun w hw => (hw.bcell0 (i := 0) rfl).trans rfl)) rfl hT ?_
  -- r3.1 t12 := fieldAddr [31, 0] t3
  refine al_take (i := 1) rfl (by kernel_rfl) (by kernel_rfl) (by kernel_rfl) rfl (fun _ _ _ h => h) (op_fieldAddr fld_31_0 rfl) rfl ?_
  -- r3.2 t13 := load [28] t12
  refine al_load (i := 2) rfl (by kernel_rfl) (by kernel_rfl) (by kernel_rfl) rfl (fun _ _ _ h => h) (by exact op_load1 one_28 rfl (fun w hw => (hw.bcell (i := 1) rfl).trans rfl)) rfl hT ?_
  -- r3.4 t15 := fieldAddr [31, 0] t3
  refine al_take (i := 4) rfl (by kernel_rfl) (by kernel_rfl) (by kernel_rfl) rfl (fun _ _ _ h => h) (op_fieldAddr fld_31_0 rfl) rfl ?_
  -- r3.5 t16 := load [28] t15
  refine al_load (i := 5) rfl (by kernel_rfl) (by kernel_rfl) (by kernel_rfl) rfl (fun _ _ _ h => h) (by exact op_load1 one_28 rfl (fun w hw => (hw.bcell (i := 1) rfl).trans rfl)) rfl hT ?_
  -- r3.6 t17 := call len t16
  refine al_take (i := 6) rfl (by kernel_rfl) (by kernel_rfl) (by kernel_rfl) rfl (fun _ _ _ h => h) (op_len sl_28 rfl rfl) rfl ?_
  have hS2 : SS G w0 G1 (CoM b va (.slice oR rs.length cR) oT cT (startI atoms.length) ++ [.blk b6 53 [.pointer (some ⟨b, 0, none⟩)], .blk b3 31 [.slice oL l.length cL, .slice oH hs.length cH], .blk b2 25 [va, .slice oR rs.length cR]]) w := by exact hS.perm (List.perm_append_comm (l₁ := [_, _, _]) (l₂ := [_, _]))
  refine al_step (i := 3) rfl (by kernel_rfl) rfl (op_callu cf_30 rfl (judge_court_steps_c hS2 startI_mem rs (hR.mono ERule.mono hl1) hok _ l (h1.mono EStep.mono hl1))) ?_
  clear hS
  rintro _ w ⟨rfl, hS⟩
  replace hS := hS.perm List.perm_append_comm
  unfold CoM at hS
  simp only [List.cons_append, List.nil_append] at hS
  have hRf := (hR.mono ERule.mono hl1).mono ERule.mono hS.hold.le_full
  have hHf := (h2.mono EInt.mono hl1).mono EInt.mono hS.hold.le_full
  have hT := hT.back hS (by first | exact Le.refl _ | assumption) (fun x hx => by try simp only [List.take_succ_cons, List.take_zero, List.mem_cons, List.not_mem_nil, or_false] at hx; (rcases hx with rfl | rfl | rfl) <;> simp)
  refine ⟨fun _ _ => hT, ?_⟩
  -- r3.7 t18 := lss t14 t17
  refine al_take (i := 7) rfl (by kernel_rfl) (by kernel_rfl) (by kernel_rfl) rfl (fun _ _ _ h => h) (op_lss rfl rfl) rfl ?_
  -- r3.8 t19 := move  t18
  refine al_take (i := 8) rfl (by kernel_rfl) (by kernel_rfl) (by kernel_rfl) rfl (fun _ _ _ h => h) (op_move rfl) rfl ?_
  refine al_split (fun h19 => ?_) (fun h19 => ?_)
  · skip
    try simp only [decide_eq_true_eq, decide_eq_false_iff_not, Bool.not_eq_true', Bool.not_eq_false', Bool.not_eq_eq_eq_not, Bool.not_true, Bool.not_false] at h19
    refine al_gskip (i := 9) rfl (by kernel_rfl) (by kernel_rfl) (by kernel_rfl) rfl rfl rfl rfl (fun _ _ _ h => h) (fun _ => hT) ?_
    refine al_gskip (i := 10) rfl (by kernel_rfl) (by kernel_rfl) (by kernel_rfl) rfl rfl rfl rfl (fun _ _ _ h => h) (fun _ => hT) ?_
    refine al_gskip (i := 11) rfl (by kernel_rfl) (by kernel_rfl) (by kernel_rfl) rfl rfl rfl rfl (fun _ _ _ h => h) (fun _ => hT) ?_
    refine al_gskip (i := 12) rfl (by kernel_rfl) (by kernel_rfl) (by kernel_rfl) rfl rfl rfl rfl (fun _ _ _ h => h) (fun _ => hT) ?_
    refine al_gskip (i := 13) rfl (by kernel_rfl) (by kernel_rfl) (by kernel_rfl) rfl rfl rfl rfl (fun _ _ _ h => h) (fun _ => hT) ?_
    -- r3.14 t25 := pick  t19 Ctrue t24
    refine al_take (i := 14) rfl (by kernel_rfl) (by kernel_rfl) (by kernel_rfl) rfl (fun _ _ _ h => h) (op_pick_t rfl rfl) rfl ?_
    -- r3.15 t26 := move  t25
    refine al_take (i := 15) rfl (by kernel_rfl) (by kernel_rfl) (by kernel_rfl) rfl (fun _ _ _ h => h) (op_move rfl) rfl ?_
    refine al_gskip (i := 16) rfl (by kernel_rfl) (by kernel_rfl) (by kernel_rfl) rfl rfl rfl rfl (fun _ _ _ h => h) (fun _ => hT) ?_
    refine al_gskip (i := 17) rfl (by kernel_rfl) (by kernel_rfl) (by kernel_rfl) rfl rfl rfl rfl (fun _ _ _ h => h) (fun _ => hT) ?_
    refine al_gskip (i := 18) rfl (by kernel_rfl) (by kernel_rfl) (by kernel_rfl) rfl rfl rfl rfl (fun _ _ _ h => h) (fun _ => hT) ?_
    refine al_gskip (i := 19) rfl (by kernel_rfl) (by kernel_rfl) (by kernel_rfl) rfl rfl rfl rfl (fun _ _ _ h => h) (fun _ => hT) ?_
    -- r3.20 t31 := pick  t26 Ctrue t30
    refine al_take (i := 20) rfl (by kernel_rfl) (by kernel_rfl) (by kernel_rfl) rfl (fun _ _ _ h => h) (op_pick_t rfl rfl) rfl ?_
    refine al_done (by kernel_rfl) ?_
    refine pq_then ?_
    refine cw_cond_t rfl ?_
    refine cw_seq ?_
    refine cw_region ?_
    -- r4.0 t4 := assign  C(slice (none Addr) 0 0)
    refine ol_pure rfl (op_assign rfl) ?_
    -- r4.1 t5 := assign  Cfalse
    refine ol_pure rfl (op_assign rfl) ?_
    refine ol_nil ?_
    refine pq_then ?_
    refine cw_ret ?_
    refine pq_ret ?_
    refine ret2 rfl rfl rfl ?_
    -- ret1 h19t
    have hck : (checkI rs atoms.length l hs) = none := by unfold checkI; rw [if_neg (fun hh => by have := hh.1; omega)]
    exact hS.rt_fr (F := noG) (fun _ _ h => by cases h) (fun _ _ => rfl) ⟨_, by rw [hck]; rfl, by rw [hck]; exact RSl.nil _⟩
  · skip
    try simp only [decide_eq_true_eq, decide_eq_false_iff_not, Bool.not_eq_true', Bool.not_eq_false', Bool.not_eq_eq_eq_not, Bool.not_true, Bool.not_false] at h19
    -- r3.9 t20 := load [53] t6 ?8=False
    refine al_gload (i := 9) rfl (by kernel_rfl) (by kernel_rfl) (by kernel_rfl) rfl rfl rfl (fun _ _ _ h => h) (by exact op_load1 one_53 rfl (fun w hw => (hw.bcell0 (i := 0) rfl).trans rfl)) rfl hT ?_
    -- r3.10 t21 := fieldAddr [31, 1] t3 ?8=False
    refine al_gtake (i := 10) rfl (by kernel_rfl) (by kernel_rfl) (by kernel_rfl) rfl rfl rfl (fun _ _ _ h => h) (op_fieldAddr fld_31_1 rfl) rfl ?_
    -- r3.11 t22 := load [29] t21 ?8=False
    refine al_gload (i := 11) rfl (by kernel_rfl) (by kernel_rfl) (by kernel_rfl) rfl rfl rfl (fun _ _ _ h => h) (by exact op_load1 one_29 rfl (fun w hw => (hw.bcell (i := 1) rfl).trans rfl)) rfl hT ?_
    have hHf := (h2.mono EInt.mono hl1).mono EInt.mono hS.hold.le_full
    have hRf := (hR.mono ERule.mono hl1).mono ERule.mono hS.hold.le_full
    refine al_gstep (i := 12) rfl (by kernel_rfl) rfl rfl rfl (op_call_sc hS cf_31 rfl (judge_court_held_c (fullG _) _ (Holds.full _) b va _ _ (partly rs (startI atoms.length) l).1 (hS.coR (i := 3) rfl) (hS.coT hmem (i := 4) rfl rfl) rs hRf hok1 _ hs hHf)) ?_
    clear hS
    rintro _ w ⟨rfl, hS⟩
    have hT := hT.back hS (by first | exact Le.refl _ | assumption) (fun x hx => by try simp only [List.take_succ_cons, List.take_zero, List.mem_cons, List.not_mem_nil, or_false] at hx; (rcases hx with rfl | rfl | rfl) <;> simp)
    refine ⟨fun _ _ => hT, ?_⟩
    -- r3.13 t24 := not t23 ?8=False
    refine al_gtake (i := 13) rfl (by kernel_rfl) (by kernel_rfl) (by kernel_rfl) rfl rfl rfl (fun _ _ _ h => h) (op_not rfl) rfl ?_
    -- r3.14 t25 := pick  t19 Ctrue t24
    refine al_take (i := 14) rfl (by kernel_rfl) (by kernel_rfl) (by kernel_rfl) rfl (fun _ _ _ h => h) (op_pick_f rfl rfl) rfl ?_
    -- r3.15 t26 := move  t25
    refine al_take (i := 15) rfl (by kernel_rfl) (by kernel_rfl) (by kernel_rfl) rfl (fun _ _ _ h => h) (op_move rfl) rfl ?_
    refine al_split (fun h26 => ?_) (fun h26 => ?_)
    · skip
      try simp only [decide_eq_true_eq, decide_eq_false_iff_not, Bool.not_eq_true', Bool.not_eq_false', Bool.not_eq_eq_eq_not, Bool.not_true, Bool.not_false] at h26
      refine al_gskip (i := 16) rfl (by kernel_rfl) (by kernel_rfl) (by kernel_rfl) rfl rfl rfl rfl (fun _ _ _ h => h) (fun _ => hT) ?_
      refine al_gskip (i := 17) rfl (by kernel_rfl) (by kernel_rfl) (by kernel_rfl) rfl rfl rfl rfl (fun _ _ _ h => h) (fun _ => hT) ?_
      refine al_gskip (i := 18) rfl (by kernel_rfl) (by kernel_rfl) (by kernel_rfl) rfl rfl rfl rfl (fun _ _ _ h => h) (fun _ => hT) ?_
      refine al_gskip (i := 19) rfl (by kernel_rfl) (by kernel_rfl) (by kernel_rfl) rfl rfl rfl rfl (fun _ _ _ h => h) (fun _ => hT) ?_
      -- r3.20 t31 := pick  t26 Ctrue t30
      refine al_take (i := 20) rfl (by kernel_rfl) (by kernel_rfl) (by kernel_rfl) rfl (fun _ _ _ h => h) (op_pick_t rfl rfl) rfl ?_
      refine al_done (by kernel_rfl) ?_
      refine pq_then ?_
      refine cw_cond_t rfl ?_
      refine cw_seq ?_
      refine cw_region ?_
      -- r4.0 t4 := assign  C(slice (none Addr) 0 0)
      refine ol_pure rfl (op_assign rfl) ?_
      -- r4.1 t5 := assign  Cfalse
      refine ol_pure rfl (op_assign rfl) ?_
      refine ol_nil ?_
      refine pq_then ?_
      refine cw_ret ?_
      refine pq_ret ?_
      refine ret2 rfl rfl rfl ?_
      -- ret1 h19f h26t
      have hck : (checkI rs atoms.length l hs) = none := by unfold checkI; rw [if_neg (fun hh => by have := hh.2.1; simp_all)]
      exact hS.rt_fr (F := noG) (fun _ _ h => by cases h) (fun _ _ => rfl) ⟨_, by rw [hck]; rfl, by rw [hck]; exact RSl.nil _⟩
    · skip
      try simp only [decide_eq_true_eq, decide_eq_false_iff_not, Bool.not_eq_true', Bool.not_eq_false', Bool.not_eq_eq_eq_not, Bool.not_true, Bool.not_false] at h26
      -- r3.16 t27 := fieldAddr [25, 1] t2 ?15=False
      refine al_gtake (i := 16) rfl (by kernel_rfl) (by kernel_rfl) (by kernel_rfl) rfl rfl rfl (fun _ _ _ h => h) (op_fieldAddr fld_25_1 rfl) rfl ?_
      -- r3.17 t28 := load [23] t27 ?15=False
      refine al_gload (i := 17) rfl (by kernel_rfl) (by kernel_rfl) (by kernel_rfl) rfl rfl rfl (fun _ _ _ h => h) (by exact op_load1 one_23 rfl (fun w hw => (hw.bcell (i := 2) rfl).trans rfl)) rfl hT ?_
      -- r3.18 t29 := move  t7 ?15=False
      refine al_gtake (i := 18) rfl (by kernel_rfl) (by kernel_rfl) (by kernel_rfl) rfl rfl rfl (fun _ _ _ h => h) (op_move rfl) rfl ?_
      have hRf := (hR.mono ERule.mono hl1).mono ERule.mono hS.hold.le_full
      refine al_gstep (i := 19) rfl (by kernel_rfl) rfl rfl rfl (op_call_sc hS cf_32 rfl (slices_ContainsFunc_Rule_c (fullG _) _ (Holds.full _) _ rs hRf (fun r => decide (valI (partly rs (startI atoms.length) l).1 r.head = 1) && firesB (partly rs (startI atoms.length) l).1 r) 28 [.pointer (some ⟨b6, 0, none⟩)] cf_28 (fun w' hB r hr a b' ha hb => judge_Check_1_c (fullG _) w' ((Holds.full _).below hB) b va _ _ (partly rs (startI atoms.length) l).1 (hS.coR (i := 3) rfl) (hS.coT hmem (i := 4) rfl rfl) b6 (hS.bcell0 (i := 0) rfl) r a b' ha hb (hok1 r hr)))) ?_
      clear hS
      rintro _ w ⟨rfl, hS⟩
      have hT := hT.back hS (by first | exact Le.refl _ | assumption) (fun x hx => by try simp only [List.take_succ_cons, List.take_zero, List.mem_cons, List.not_mem_nil, or_false] at hx; (rcases hx with rfl | rfl | rfl) <;> simp)
      refine ⟨fun _ _ => hT, ?_⟩
      -- r3.20 t31 := pick  t26 Ctrue t30
      refine al_take (i := 20) rfl (by kernel_rfl) (by kernel_rfl) (by kernel_rfl) rfl (fun _ _ _ h => h) (op_pick_f rfl rfl) rfl ?_
      refine al_done (by kernel_rfl) ?_
      refine pq_then ?_
      refine cw_cond rfl (fun h31 => ?_) (fun h31 => ?_)
      · skip
        try simp only [decide_eq_true_eq, decide_eq_false_iff_not, Bool.not_eq_true', Bool.not_eq_false', Bool.not_eq_eq_eq_not, Bool.not_true, Bool.not_false] at h31
        refine cw_seq ?_
        refine cw_region ?_
        -- r4.0 t4 := assign  C(slice (none Addr) 0 0)
        refine ol_pure rfl (op_assign rfl) ?_
        -- r4.1 t5 := assign  Cfalse
        refine ol_pure rfl (op_assign rfl) ?_
        refine ol_nil ?_
        refine pq_then ?_
        refine cw_ret ?_
        refine pq_ret ?_
        refine ret2 rfl rfl rfl ?_
        -- ret1 h19f h26f h31t
        have hck : (checkI rs atoms.length l hs) = none := by unfold checkI; rw [if_neg (fun hh => by have h3 := hh.2.2; unfold leftB at h3; rw [h31] at h3; cases h3)]
        exact hS.rt_fr (F := noG) (fun _ _ h => by cases h) (fun _ _ => rfl) ⟨_, by rw [hck]; rfl, by rw [hck]; exact RSl.nil _⟩
      · skip
        try simp only [decide_eq_true_eq, decide_eq_false_iff_not, Bool.not_eq_true', Bool.not_eq_false', Bool.not_eq_eq_eq_not, Bool.not_true, Bool.not_false] at h31
        refine cw_skip ?_
        refine pq_then ?_
        refine cw_seq ?_
        refine cw_region ?_
        -- r5.0 t32 := load [53] t6
        refine ol_load rfl (op_load1 one_53 rfl (fun w hw => (hw.bcell0 (i := 0) rfl).trans rfl)) hS ?_
        -- r5.1 t33 := nilCheck  t32
        refine ol_pure rfl (op_nilCheck rfl) ?_
        -- r5.2 t34 := fieldAddr [56, 1] t33
        refine ol_pure rfl (op_fieldAddr fld_56_1 rfl) ?_
        -- r5.3 t35 := load [29] t34
        refine ol_load rfl (op_load1 one_29 rfl (fun w hw => (hw.bcell (i := 3) (k := 2) rfl).trans rfl)) hS ?_
        -- r5.4 t4 := assign  t35
        refine ol_pure rfl (op_assign rfl) ?_
        -- r5.5 t5 := assign  Ctrue
        refine ol_pure rfl (op_assign rfl) ?_
        refine ol_nil ?_
        refine pq_then ?_
        refine cw_ret ?_
        refine ret2 rfl rfl rfl ?_
        -- ret2 h19f h26f h31f
        have hck : (checkI rs atoms.length l hs) = some (partly rs (startI atoms.length) l).1 := by unfold checkI; rw [if_pos ⟨by omega, by simpa using h26, h31⟩]
        obtain ⟨F2, G2, hF, hn, hf, hl, hS2⟩ := SS.give_fr (partly rs (startI atoms.length) l).1 [_, _, _, _] EInt.mono hS (by decide) (Rows.ints fun x hx => by have := hmem x hx; omega) rfl
        exact hS2.rt_fr hf hn ⟨_, by rw [hck]; rfl, by rw [hck]; exact hF⟩
end Go.Proofs.Ytbpmkidaoemebaa.K
