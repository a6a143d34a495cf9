/-
  The walk of JudgeStrict.
  No condition but the premises that each theorem names.
-/
import Derived.Test.YtbpmkidaoemebaaLaw22b
import Derived.Test.YtbpmkidaoemebaaPll
namespace Go.Proofs.Ytbpmkidaoemebaa.K
open Go Go.RowKit
set_option linter.unusedVariables false
set_option linter.unusedSimpArgs false

open Pl
theorem wrap_u8 {a : Int} (h : 0 ≤ a ∧ a ≤ 255) : IntKind.i64.wrap a = a := by
  simp [IntKind.wrap, IntKind.signed, IntKind.bits]
  omega
/-- The cells of a row that is read. -/
theorem cells_aux {α : Type} {sz : Nat} {E : ER α} {G : GH} {oa : Option Addr} (hE1 : ∀ G cs x, E G cs x → ∀ u ∈ cs, u.oneCell' = true) : ∀ (xs : List α) (o : Nat),
    (∀ (i : Nat) (x : α), xs[i]? = some x → oa.isSome = true ∧ ∃ cs : List Value, cs.length = sz ∧ E G cs x ∧ ∀ (k : Nat) (u : Value), cs[k]? = some u → gcell G (elA oa ((o + i) * sz + k)) = some u) →
    ∃ us, Rows sz E G us xs ∧ (∀ u ∈ us, u.oneCell' = true) ∧ ∀ (k : Nat) (u : Value), us[k]? = some u → oa.isSome = true ∧ gcell G (elA oa (o * sz + k)) = some u
  | [], _, _ => ⟨[], .nil _, by simp, by simp⟩
  | x :: xs, o, h => by
    obtain ⟨h1, cs, h2, h3, h4⟩ := h 0 x rfl
    obtain ⟨us, h5, h6, h7⟩ := cells_aux hE1 xs (o + 1) (fun i y hy => by
      obtain ⟨g1, c, g2, g3, g4⟩ := h (i + 1) y (by simpa using hy)
      exact ⟨g1, c, g2, g3, fun k u hu => by rw [show o + 1 + i = o + (i + 1) from by omega]; exact g4 k u hu⟩)
    refine ⟨cs ++ us, ?_, fun u hu => ?_, fun k u hu => ?_⟩
    · have := ((Rows.nil (sz := sz) (E := E) G).snoc h2 h3).app h5
      simpa using this
    · rcases List.mem_append.1 hu with hu | hu
      · exact hE1 _ _ _ h3 u hu
      · exact h6 u hu
    · by_cases hk : k < cs.length
      · rw [List.getElem?_append_left hk] at hu
        have := h4 k u hu
        rw [Nat.add_zero] at this
        exact ⟨h1, this⟩
      · rw [List.getElem?_append_right (by omega)] at hu
        obtain ⟨g1, g2⟩ := h7 _ u hu
        refine ⟨g1, ?_⟩
        rw [show (o + 1) * sz + (k - cs.length) = o * sz + k from by rw [Nat.add_mul]; omega] at g2
        exact g2
theorem RSl.cells {α : Type} {sz : Nat} {E : ER α} {G : GH} {oa : Option Addr} {n c : Nat} {xs : List α} (hE1 : ∀ G cs x, E G cs x → ∀ u ∈ cs, u.oneCell' = true) (h : RSl sz E G (.slice oa n c) xs) : ∃ us, Rows sz E G us xs ∧ (∀ u ∈ us, u.oneCell' = true) ∧ ∀ (k : Nat) (u : Value), us[k]? = some u → oa.isSome = true ∧ gcell G (elA oa k) = some u := by
  obtain ⟨us, h1, h2, h3⟩ := cells_aux hE1 xs 0 (fun i x hx => by
    obtain ⟨g1, cs, g2, g3, g4⟩ := h.at_ hx
    exact ⟨g1, cs, g2, g3, fun k u hu => by rw [Nat.zero_add]; exact g4 k u hu⟩)
  exact ⟨us, h1, h2, fun k u hu => by have := h3 k u hu; rw [Nat.zero_mul, Nat.zero_add] at this; exact this⟩
theorem EStep.one : ∀ G cs x, EStep G cs x → ∀ u ∈ cs, u.oneCell' = true := fun G cs x ⟨v, h1, h2, _⟩ u hu => by
  subst h1
  rcases List.mem_cons.1 hu with rfl | hu
  · rfl
  · have : u = v := by simpa using hu
    rw [this]; exact h2.one

set_option maxRecDepth 100000 in
set_option maxHeartbeats 4000000 in

theorem L22_JudgeStrict_c (G : GH) (w0 : World) (hG : Holds G w0) (va vr : Value) (atoms : List (List Cell)) (rs : List Rule) (h1 : RSl 1 EAtom G va atoms) (h2 : RSl 3 ERule G vr rs) (z : Int) (hz : 0 ≤ z ∧ z ≤ 255) :
    Calls Try.prog 6 #[.agg #[va, vr], .int .u8 z] w0 (Sc w0 (.bool true)) := by
  obtain ⟨oA, cA, rfl, hlA, hmA⟩ := h1.elim
  obtain ⟨oR, cR, rfl, hlR, hmR⟩ := h2.elim
  refine enter Try.func6 rfl (N := 132) rfl (Nat.le_of_ble_eq_true rfl) ?_
  have hS := SS.init hG
  refine cw_seq ?_
  refine cw_region ?_
  -- r0.0 t2 := box [25] t0
  refine ol_step rfl (op_box hS rfl rfl) ?_
  clear hS
  rintro _ w ⟨b2, rfl, hS⟩
  -- r0.1 t4 := assign  Cfalse
  refine ol_pure rfl (op_assign rfl) ?_
  refine ol_nil ?_
  refine pq_then ?_
  refine cw_seq ?_
  refine cw_region ?_
  -- r1.0 t22 := call f11 
  refine ol_step rfl (op_call_sc hS cf_11 rfl (L22_head_c G _ hS.hold)) ?_
  clear hS
  rintro _ w ⟨rfl, hS⟩
  -- r1.1 t5 := assign  t22
  refine ol_pure rfl (op_assign rfl) ?_
  refine ol_nil ?_
  refine pq_then ?_
  refine cw_seq ?_
  refine cw_seq ?_
  refine cw_region ?_
  -- r2.0 t23 := load [25] t2
  refine ol_load rfl (op_loadN agg_25 rfl (by rfl) (fun w hw k u hk => (hw.bcell (i := 0) rfl).trans hk)) hS ?_
  -- r2.1 t24 := build [31] 
  refine ol_pure rfl (op_build (is := []) (xs := []) (v := .agg #[.slice none 0 0, .slice none 0 0]) rfl rfl (fun w => by kernel_rfl)) ?_
  -- r2.2 t25 := call f12 t23 t24
  refine ol_step rfl (op_call_sc hS cf_12 rfl (L22_great_c G _ hS.hold _ _ atoms rs h1 h2 _ _ [] [] (RSl.nil _) (RSl.nil _))) ?_
  clear hS
  rintro _ w ⟨rfl, hS⟩
  refine ol_nil ?_
  refine pq_then ?_
  refine cw_cond rfl (fun h25 => ?_) (fun h25 => ?_)
  · skip
    try simp only [decide_eq_true_eq, decide_eq_false_iff_not, Bool.not_eq_true', Bool.not_eq_false', Bool.not_eq_eq_eq_not, Bool.not_true, Bool.not_false] at h25
    refine cw_seq ?_
    refine cw_region ?_
    -- r3.0 t26 := move  t5
    refine ol_pure rfl (op_move rfl) ?_
    -- r3.1 t4 := assign  t26
    refine ol_pure rfl (op_assign rfl) ?_
    refine ol_nil ?_
    refine pq_then ?_
    refine cw_ret ?_
    refine pq_ret ?_
    refine ret1 rfl rfl ?_
    -- ret1 h25t
    exact hS.sc_b rfl
  · skip
    try simp only [decide_eq_true_eq, decide_eq_false_iff_not, Bool.not_eq_true', Bool.not_eq_false', Bool.not_eq_eq_eq_not, Bool.not_true, Bool.not_false] at h25
    have hgr := greatB_f h25
    have hP := PrOk.of_great hgr.1 hgr.2.1
    have hPn := hP.n_le
    have hPm := hP.m_le
    have hle0 := Le.refl G
    have hbt := built hP
    have hml : (stepsI atoms.length rs).2.length = atoms.length := (steps_built hP).1.sound.len
    have hsl : (stepsI atoms.length rs).1.length ≤ atoms.length := by
      have h1 := (steps_built hP).1.part
      have h2 := partly_told (n := atoms.length) (rs := rs) (stepsI atoms.length rs).1 (m := startI atoms.length) (by simp [startI])
      have h3 := cntB_le (toldB atoms.length (stepsI atoms.length rs).2)
      rw [h1] at h2
      simp only [toldB, soB, List.length_map, List.length_range] at h2 h3
      omega
    have hhl : (holdsI atoms.length rs (stepsI atoms.length rs).2).length ≤ atoms.length := by
      obtain ⟨out, ho, _⟩ := held_all (check_some hbt).2
      obtain ⟨g1, g2, _⟩ := heldL_facts ho
      have g3 := nodup_le (n := (stepsI atoms.length rs).2.length) g2 (heldL_range (fun r hr => by rw [hml]; exact (hP.rule r hr).1) ho)
      rw [g1, List.length_map] at g3
      omega
    refine cw_skip ?_
    refine pq_then ?_
    refine cw_seq ?_
    refine cw_region ?_
    -- r4.0 t28 := load [25] t2
    refine ol_load rfl (op_loadN agg_25 rfl (by rfl) (fun w hw k u hk => (hw.bcell (i := 0) rfl).trans hk)) hS ?_
    -- r4.1 t29 := call f13 t28
    refine ol_step rfl (op_call_rt hS cf_13 rfl (fun _ => .inr rfl) (fun _ _ _ hl ⟨a, b, e1, e2, e3⟩ => ⟨a, b, e1, e2.mono EStep.mono hl, e3.mono EInt.mono hl⟩) (L22_steps_c _ _ hS.hold EAtom.mono _ _ atoms rs (h1.mono EAtom.mono hle0) (h2.mono ERule.mono hle0) hP)) ?_
    clear hS
    rintro v29 w ⟨G29, hl29, hR29, hS⟩
    obtain ⟨vl, vm, rfl, hL, hM⟩ := hR29
    obtain ⟨oL, cL, rfl, _, _⟩ := hL.elim
    -- r4.2 t27 := move  t29
    refine ol_pure rfl (op_move rfl) ?_
    -- r4.3 t30 := extract [0] t27
    refine ol_pure rfl (op_extract (vs := [.slice oL (stepsI atoms.length rs).1.length cL, vm]) rfl rfl) ?_
    -- r4.4 t31 := extract [1] t27
    refine ol_pure rfl (op_extract (vs := [.slice oL (stepsI atoms.length rs).1.length cL, vm]) rfl rfl) ?_
    -- r4.5 t6 := assign  t30
    refine ol_pure rfl (op_assign rfl) ?_
    -- r4.6 t7 := assign  t31
    refine ol_pure rfl (op_assign rfl) ?_
    refine ol_nil ?_
    refine pq_then ?_
    refine cw_seq ?_
    refine cw_region ?_
    -- r5.0 t32 := load [25] t2
    refine ol_load rfl (op_loadN agg_25 rfl (by rfl) (fun w hw k u hk => (hw.bcell (i := 0) rfl).trans hk)) hS ?_
    -- r5.1 t33 := move  t7
    refine ol_pure rfl (op_move rfl) ?_
    -- r5.2 t34 := call f15 t32 t33
    refine ol_step rfl (op_call_fr hS cf_15 rfl (L22_holds_c _ _ hS.hold _ _ atoms rs (h1.mono EAtom.mono hl29) (h2.mono ERule.mono hl29) hP _ (stepsI atoms.length rs).2 hM hml)) ?_
    clear hS
    rintro v34 w ⟨F34, G34, hR34, hF34, hf34, hl34, hS⟩
    obtain ⟨oH, cH, rfl, _, _⟩ := hR34.elim
    have hH := hR34.mono EInt.mono hf34
    replace hL := hL.mono EStep.mono hl34
    have hb34 := hl29.trans hl34
    -- r5.3 t8 := assign  t34
    refine ol_pure rfl (op_assign rfl) ?_
    refine ol_nil ?_
    refine pq_then ?_
    refine cw_seq ?_
    refine cw_region ?_
    -- r6.0 t36 := load [25] t2
    refine ol_load rfl (op_loadN agg_25 rfl (by rfl) (fun w hw k u hk => (hw.bcell (i := 0) rfl).trans hk)) hS ?_
    -- r6.1 t37 := move  t6
    refine ol_pure rfl (op_move rfl) ?_
    -- r6.2 t38 := move  t8
    refine ol_pure rfl (op_move rfl) ?_
    -- r6.3 t39 := build [31] 0:t37 1:t38
    refine ol_pure rfl (op_build (is := [0, 1]) (xs := [.tmp 37, .tmp 38]) (v := .agg #[.slice oL (stepsI atoms.length rs).1.length cL, .slice oH (holdsI atoms.length rs (stepsI atoms.length rs).2).length cH]) rfl rfl (fun w => by kernel_rfl)) ?_
    -- r6.4 t40 := call f14 t36 t39
    refine ol_step rfl (op_call_fr hS cf_14 rfl (judge_Check_c _ _ hS.hold _ _ atoms rs (h1.mono EAtom.mono hb34) (h2.mono ERule.mono hb34) hP _ _ (stepsI atoms.length rs).1 (holdsI atoms.length rs (stepsI atoms.length rs).2) hL hH)) ?_
    clear hS
    rintro v40 w ⟨F40, G40, hR40, hF40, hf40, hl40, hS⟩
    obtain ⟨vm40, hv, _⟩ := hR40
    rw [hbt] at hv
    simp only [Option.isSome_some] at hv
    subst hv
    have hb40 := hb34.trans hl40
    replace hL := hL.mono EStep.mono hl40
    replace hH := hH.mono EInt.mono hl40
    -- r6.5 t35 := move  t40
    refine ol_pure rfl (op_move rfl) ?_
    -- r6.6 t41 := extract [0] t35
    refine ol_pure rfl (op_extract (vs := [vm40, .bool true]) rfl rfl) ?_
    -- r6.7 t42 := extract [1] t35
    refine ol_pure rfl (op_extract (vs := [vm40, .bool true]) rfl rfl) ?_
    -- r6.8 t9 := assign  t41
    refine ol_pure rfl (op_assign rfl) ?_
    -- r6.9 t10 := assign  t42
    refine ol_pure rfl (op_assign rfl) ?_
    refine ol_nil ?_
    refine pq_then ?_
    refine cw_seq ?_
    refine cw_seq ?_
    refine cw_region ?_
    -- r7.0 t43 := move  t10
    refine ol_pure rfl (op_move rfl) ?_
    -- r7.1 t44 := not t43
    refine ol_pure rfl (op_not rfl) ?_
    refine ol_nil ?_
    refine pq_then ?_
    refine cw_cond_f rfl ?_
    refine cw_skip ?_
    refine pq_then ?_
    refine cw_seq ?_
    refine cw_seq ?_
    refine cw_region ?_
    -- r9.0 t45 := move  t8
    refine ol_pure rfl (op_move rfl) ?_
    -- r9.1 t46 := call len t45
    refine ol_pure rfl (op_len sl_29 rfl rfl) ?_
    -- r9.2 t47 := gtr t46 C0
    refine ol_pure rfl (op_gtr rfl rfl) ?_
    refine ol_nil ?_
    refine pq_then ?_
    refine cw_cond rfl (fun h47 => ?_) (fun h47 => ?_)
    · skip
      try simp only [decide_eq_true_eq, decide_eq_false_iff_not, Bool.not_eq_true', Bool.not_eq_false', Bool.not_eq_eq_eq_not, Bool.not_true, Bool.not_false] at h47
      obtain ⟨kk, hkk⟩ := Int.eq_ofNat_of_zero_le (Int.emod_nonneg z (show (((holdsI atoms.length rs (stepsI atoms.length rs).2).length : Nat) : Int) ≠ 0 by omega))
      have hkl := Int.emod_lt_of_pos z (show (0 : Int) < ((holdsI atoms.length rs (stepsI atoms.length rs).2).length : Nat) by omega)
      have hlk : kk < (holdsI atoms.length rs (stepsI atoms.length rs).2).length := by omega
      refine cw_seq ?_
      refine cw_region ?_
      -- r10.0 t48 := move  t1
      refine ol_pure rfl (op_move rfl) ?_
      -- r10.1 t49 := convert [5, 3] t48
      refine ol_pure rfl (op_conv ⟨_, Try.underlying5⟩ Try.underlying3 rfl (wrap_u8 hz)) ?_
      -- r10.2 t50 := move  t8
      refine ol_pure rfl (op_move rfl) ?_
      -- r10.3 t51 := call len t50
      refine ol_pure rfl (op_len sl_29 rfl rfl) ?_
      -- r10.4 t52 := rem t49 t51
      refine ol_pure rfl (op_val (op_rem rfl rfl (by omega) (by omega)) (congrArg (Value.int .i64) hkk)) ?_
      -- r10.5 t11 := assign  t52
      refine ol_pure rfl (op_assign rfl) ?_
      refine ol_nil ?_
      refine pq_then ?_
      refine cw_seq ?_
      refine al_start' hS (hS.take 0) (by kernel_rfl) rfl (fun w hS hT => ?_)
      -- r11.1 t54 := move  t8
      refine al_take (i := 1) rfl (by kernel_rfl) (by kernel_rfl) (by kernel_rfl) rfl (fun _ _ _ h => h) (op_move rfl) rfl ?_
      -- r11.2 t55 := move  t11
      refine al_take (i := 2) rfl (by kernel_rfl) (by kernel_rfl) (by kernel_rfl) rfl (fun _ _ _ h => h) (op_move rfl) rfl ?_
      -- r11.3 t56 := slice t54 [:t55:]
      have hcut := hH.cut (lo := 0) (hi := kk) (Nat.zero_le _) (by omega)
      obtain ⟨oY, cY, hY, _, _⟩ := hcut.elimN (n := kk) (by simp; omega)
      rw [hY, List.drop_zero] at hcut
      refine al_take (i := 3) rfl (by kernel_rfl) (by kernel_rfl) (by kernel_rfl) rfl (fun _ _ _ h => h) (op_val (op_slice_h (h := kk) sl_29 rfl rfl (by omega)) hY) rfl ?_
      -- r11.5 t58 := move  t8
      refine al_take (i := 5) rfl (by kernel_rfl) (by kernel_rfl) (by kernel_rfl) rfl (fun _ _ _ h => h) (op_move rfl) rfl ?_
      -- r11.6 t59 := move  t11
      refine al_take (i := 6) rfl (by kernel_rfl) (by kernel_rfl) (by kernel_rfl) rfl (fun _ _ _ h => h) (op_move rfl) rfl ?_
      -- r11.7 t60 := add t59 C1
      refine al_take (i := 7) rfl (by kernel_rfl) (by kernel_rfl) (by kernel_rfl) rfl (fun _ _ _ h => h) (op_add rfl rfl (by omega) (by omega)) rfl ?_
      -- r11.8 t61 := slice t58 [t60::]
      have hcut2 := hH.cut (lo := kk + 1) (hi := (holdsI atoms.length rs (stepsI atoms.length rs).2).length) (by omega) (Nat.le_refl _)
      obtain ⟨oZ, cZ, hZ, _, _⟩ := hcut2.elimN (n := (holdsI atoms.length rs (stepsI atoms.length rs).2).length - (kk + 1)) (by simp)
      rw [hZ, List.take_length] at hcut2
      refine al_take (i := 8) rfl (by kernel_rfl) (by kernel_rfl) (by kernel_rfl) rfl (fun _ _ _ h => h) (op_val (op_slice_l (l := kk + 1) sl_29 rfl rfl (by omega)) hZ) rfl ?_
      refine al_step (i := 0) rfl (by kernel_rfl) rfl (op_buildSlice (el := 3) (is := []) (xs := []) (sz := 1) (cs := []) hS rfl rfl (fun w => by kernel_rfl) rfl (by decide)) ?_
      clear hS
      rintro _ w ⟨s53, rfl, hS⟩
      refine ⟨no_need (by kernel_rfl), ?_⟩
      refine al_step (i := 4) rfl (by kernel_rfl) rfl (op_append (j := 0) (m := kk) hS sl_29 el_3 rfl rfl rfl rfl rfl (by simp; omega) (by decide) (hcut.newsI hS.hold) (ones_i _) (by omega) (by unfold maxLen; omega)) ?_
      clear hS
      rintro _ w ⟨s53n, c_s53n, rfl, hS⟩; (try simp only [List.nil_append, List.cons_append, List.set] at hS)
      refine ⟨no_need (by kernel_rfl), ?_⟩
      refine al_step (i := 9) rfl (by kernel_rfl) rfl (op_append (j := 0) (m := (holdsI atoms.length rs (stepsI atoms.length rs).2).length - (kk + 1)) hS sl_29 el_3 rfl rfl rfl rfl rfl (by simp) (by decide) (hcut2.newsI hS.hold) (ones_i _) (by omega) (by unfold maxLen; omega)) ?_
      clear hS
      rintro _ w ⟨s53nn, c_s53nn, rfl, hS⟩; (try simp only [List.nil_append, List.cons_append, List.set] at hS)
      obtain ⟨GL, hlL, hS2, hL9⟩ := SS.give' ((holdsI atoms.length rs (stepsI atoms.length rs).2).take kk ++ (holdsI atoms.length rs (stepsI atoms.length rs).2).drop (kk + 1)) [] EInt.mono hS (by decide) (by exact (by have := Rows.of_map (xs := ((holdsI atoms.length rs (stepsI atoms.length rs).2).take kk ++ (holdsI atoms.length rs (stepsI atoms.length rs).2).drop (kk + 1))) (f := Value.int .i64) (E := EInt) (G := G40) (fun y hy => ⟨rfl, by rcases List.mem_append.1 hy with hy | hy; exact hH.bnd y (List.mem_of_mem_take hy); exact hH.bnd y (List.mem_of_mem_drop hy)⟩); simpa using this)) (by simp; omega)
      clear hS
      have hS := hS2
      clear hS2
      (try simp only [List.nil_append, List.cons_append] at hS)
      replace hL := hL.mono EStep.mono hlL
      replace hH := hH.mono EInt.mono hlL
      refine ⟨no_need (by kernel_rfl), ?_⟩
      -- r11.10 t12 := assign  t62
      refine al_take (i := 10) rfl (by kernel_rfl) (by kernel_rfl) (by kernel_rfl) rfl (fun _ _ _ h => h) (op_assign rfl) rfl ?_
      refine al_done (by kernel_rfl) ?_
      refine pq_then ?_
      refine cw_seq ?_
      refine cw_region ?_
      -- r12.0 t64 := load [25] t2
      refine ol_load rfl (op_loadN agg_25 rfl (by rfl) (fun w hw k u hk => (hw.bcell (i := 0) rfl).trans hk)) hS ?_
      -- r12.1 t65 := move  t6
      refine ol_pure rfl (op_move rfl) ?_
      -- r12.2 t66 := move  t12
      refine ol_pure rfl (op_move rfl) ?_
      -- r12.3 t67 := build [31] 0:t65 1:t66
      refine ol_pure rfl (op_build (is := [0, 1]) (xs := [.tmp 65, .tmp 66]) (v := .agg #[.slice oL (stepsI atoms.length rs).1.length cL, .slice s53nn (0 + kk + ((holdsI atoms.length rs (stepsI atoms.length rs).2).length - (kk + 1))) c_s53nn]) rfl rfl (fun w => by kernel_rfl)) ?_
      -- r12.4 t68 := call f14 t64 t67
      refine ol_step rfl (op_call_fr hS cf_14 rfl (judge_Check_c _ _ hS.hold _ _ atoms rs (h1.mono EAtom.mono hS.le) (h2.mono ERule.mono hS.le) hP _ _ (stepsI atoms.length rs).1 ((holdsI atoms.length rs (stepsI atoms.length rs).2).take kk ++ (holdsI atoms.length rs (stepsI atoms.length rs).2).drop (kk + 1)) hL hL9)) ?_
      clear hS
      rintro v68 w ⟨F68, G68, hR68, hF68, hf68, hl68, hS⟩
      obtain ⟨vm68, hv, _⟩ := hR68
      rw [strict1 hP hbt hlk] at hv
      simp only [Option.isSome_none] at hv
      subst hv
      replace hL := hL.mono EStep.mono hl68
      replace hH := hH.mono EInt.mono hl68
      -- r12.5 t63 := move  t68
      refine ol_pure rfl (op_move rfl) ?_
      -- r12.6 t69 := extract [0] t63
      refine ol_pure rfl (op_extract (vs := [vm68, .bool false]) rfl rfl) ?_
      -- r12.7 t70 := extract [1] t63
      refine ol_pure rfl (op_extract (vs := [vm68, .bool false]) rfl rfl) ?_
      -- r12.8 t13 := assign  t69
      refine ol_pure rfl (op_assign rfl) ?_
      -- r12.9 t14 := assign  t70
      refine ol_pure rfl (op_assign rfl) ?_
      refine ol_nil ?_
      refine pq_then ?_
      refine cw_seq ?_
      obtain ⟨hoH, hcH, hbH⟩ := hH.int hlk
      refine al_start' hS (hS.take 1) (by kernel_rfl) rfl (fun w hS hT => ?_)
      -- r13.0 t72 := load [25] t2
      refine al_load (i := 0) rfl (by kernel_rfl) (by kernel_rfl) (by kernel_rfl) rfl (fun _ _ _ h => h) (by exact op_loadN agg_25 rfl (by rfl) (fun w hw k u hk => (hw.bcell (i := 0) rfl).trans hk)) rfl hT ?_
      -- r13.1 t73 := move  t6
      refine al_take (i := 1) rfl (by kernel_rfl) (by kernel_rfl) (by kernel_rfl) rfl (fun _ _ _ h => h) (op_move rfl) rfl ?_
      -- r13.3 t75 := move  t8
      refine al_take (i := 3) rfl (by kernel_rfl) (by kernel_rfl) (by kernel_rfl) rfl (fun _ _ _ h => h) (op_move rfl) rfl ?_
      -- r13.5 t77 := move  t8
      refine al_take (i := 5) rfl (by kernel_rfl) (by kernel_rfl) (by kernel_rfl) rfl (fun _ _ _ h => h) (op_move rfl) rfl ?_
      -- r13.6 t78 := move  t11
      refine al_take (i := 6) rfl (by kernel_rfl) (by kernel_rfl) (by kernel_rfl) rfl (fun _ _ _ h => h) (op_move rfl) rfl ?_
      -- r13.7 t79 := indexAddr [29] t77 t78
      refine al_take (i := 7) rfl (by kernel_rfl) (by kernel_rfl) (by kernel_rfl) rfl (fun _ _ _ h => h) (op_indexN sl_29 rfl rfl (by omega) (by assumption)) rfl ?_
      -- r13.8 t80 := load [3] t79
      refine al_load (i := 8) rfl (by kernel_rfl) (by kernel_rfl) (by kernel_rfl) rfl (fun _ _ _ h => h) (by exact op_load1 one_3 rfl (fun w hw => hw.gcell hcH)) rfl hT ?_
      refine al_two (i := 2) (j := 9) (by kernel_rfl) (fun a ha => ?_) (fun a ha => ?_)
      · skip
        refine wpOp_of_opk (i := 2) rfl ha (op_buildSlice (el := 3) (is := []) (xs := []) (sz := 1) (cs := []) hS rfl rfl (fun w => by kernel_rfl) rfl (by decide)) ?_
        clear hS
        rintro _ w ⟨s74, rfl, hS⟩
        have hT := hT.back hS (by first | exact Le.refl _ | assumption) (fun x hx => by try simp only [List.take_succ_cons, List.take_zero, List.mem_cons, List.not_mem_nil, or_false] at hx; (rcases hx with rfl) <;> simp)
        refine ⟨fun _ _ => hT, ?_⟩
        refine al_at ?_ (ha.put (blt_lt rfl) _)
        refine al_two (i := 4) (j := 9) (by kernel_rfl) (fun a ha => ?_) (fun a ha => ?_)
        · skip
          refine wpOp_of_opk (i := 4) rfl ha (op_append (j := 0) (m := (holdsI atoms.length rs (stepsI atoms.length rs).2).length) hS sl_29 el_3 rfl rfl rfl rfl rfl (by simp) (by decide) (hH.newsI hS.hold) (ones_i _) (by omega) (by unfold maxLen; omega)) ?_
          clear hS
          rintro _ w ⟨s74n, c_s74n, rfl, hS⟩; (try simp only [List.nil_append, List.cons_append, List.set] at hS)
          have hT := hT.back hS (by first | exact Le.refl _ | assumption) (fun x hx => by try simp only [List.take_succ_cons, List.take_zero, List.mem_cons, List.not_mem_nil, or_false] at hx; (rcases hx with rfl) <;> simp)
          refine ⟨fun _ _ => hT, ?_⟩
          refine al_at ?_ (ha.put (blt_lt rfl) _)
          refine al_step (i := 9) rfl (by kernel_rfl) rfl (op_buildSlice (el := 3) (is := [0]) (xs := [.tmp 80]) (sz := 1) (cs := [.int .i64 (holdsI atoms.length rs (stepsI atoms.length rs).2)[kk]]) hS rfl rfl (fun w => by kernel_rfl) rfl (by decide)) ?_
          clear hS
          rintro _ w ⟨s81, rfl, hS⟩
          have hT := hT.back hS (by first | exact Le.refl _ | assumption) (fun x hx => by try simp only [List.take_succ_cons, List.take_zero, List.mem_cons, List.not_mem_nil, or_false] at hx; (rcases hx with rfl) <;> simp)
          refine ⟨fun _ _ => hT, ?_⟩
          refine al_step (i := 10) rfl (by kernel_rfl) rfl (op_append (j := 1) hS sl_29 el_3 rfl rfl rfl rfl rfl rfl (by decide) (hS.news (j := 0) rfl) (by simp [Value.oneCell']) (by omega) (by unfold maxLen; omega)) ?_
          clear hS
          rintro _ w ⟨s74nn, c_s74nn, rfl, hS⟩; (try simp only [List.nil_append, List.cons_append, List.set] at hS); replace hS := SS.drop [] hS; (try simp only [List.nil_append, List.cons_append] at hS)
          obtain ⟨GT, hlT, hS2, hT9⟩ := SS.give' ((holdsI atoms.length rs (stepsI atoms.length rs).2) ++ [(holdsI atoms.length rs (stepsI atoms.length rs).2)[kk]]) [] EInt.mono hS (by decide) (by exact (by have := Rows.of_map (xs := ((holdsI atoms.length rs (stepsI atoms.length rs).2) ++ [(holdsI atoms.length rs (stepsI atoms.length rs).2)[kk]])) (f := Value.int .i64) (E := EInt) (G := G68) (fun y hy => ⟨rfl, by rcases List.mem_append.1 hy with hy | hy; exact hH.bnd y hy; simp at hy; subst hy; exact hbH⟩); simpa using this)) (by simp)
          clear hS
          have hS := hS2
          clear hS2
          (try simp only [List.nil_append, List.cons_append] at hS)
          replace hL := hL.mono EStep.mono hlT
          replace hH := hH.mono EInt.mono hlT
          have hT := hT.back hS (by first | exact Le.refl _ | assumption) (fun x hx => by try simp only [List.take_succ_cons, List.take_zero, List.mem_cons, List.not_mem_nil, or_false] at hx; (rcases hx with rfl) <;> simp)
          refine ⟨fun _ _ => hT, ?_⟩
          -- r13.11 t83 := build [31] 0:t73 1:t82
          refine al_take (i := 11) rfl (by kernel_rfl) (by kernel_rfl) (by kernel_rfl) rfl (fun _ _ _ h => h) (op_build (is := [0, 1]) (xs := [.tmp 73, .tmp 82]) (v := .agg #[.slice oL (stepsI atoms.length rs).1.length cL, .slice s74nn (0 + (holdsI atoms.length rs (stepsI atoms.length rs).2).length + 1) c_s74nn]) rfl rfl (fun w => by kernel_rfl)) rfl ?_
          refine al_step (i := 12) rfl (by kernel_rfl) rfl (op_call_fr hS cf_14 rfl (judge_Check_c _ _ hS.hold _ _ atoms rs (h1.mono EAtom.mono hS.le) (h2.mono ERule.mono hS.le) hP _ _ (stepsI atoms.length rs).1 ((holdsI atoms.length rs (stepsI atoms.length rs).2) ++ [(holdsI atoms.length rs (stepsI atoms.length rs).2)[kk]]) hL hT9)) ?_
          clear hS
          rintro v84 w ⟨F84, G84, hR84, hF84, hf84, hl84, hS⟩
          obtain ⟨vm84, hv, _⟩ := hR84
          rw [strict2 hbt hlk] at hv
          simp only [Option.isSome_none] at hv
          subst hv
          replace hL := hL.mono EStep.mono hl84
          replace hH := hH.mono EInt.mono hl84
          have hx84 := hlT.trans hl84
          have hT := hT.back hS (by first | exact Le.refl _ | assumption) (fun x hx => by try simp only [List.take_succ_cons, List.take_zero, List.mem_cons, List.not_mem_nil, or_false] at hx; (rcases hx with rfl) <;> simp)
          refine ⟨fun _ _ => hT, ?_⟩
          -- r13.13 t71 := move  t84
          refine al_take (i := 13) rfl (by kernel_rfl) (by kernel_rfl) (by kernel_rfl) rfl (fun _ _ _ h => h) (op_move rfl) rfl ?_
          -- r13.14 t85 := extract [0] t71
          refine al_take (i := 14) rfl (by kernel_rfl) (by kernel_rfl) (by kernel_rfl) rfl (fun _ _ _ h => h) (op_extract (vs := [vm84, .bool false]) rfl rfl) rfl ?_
          -- r13.15 t86 := extract [1] t71
          refine al_take (i := 15) rfl (by kernel_rfl) (by kernel_rfl) (by kernel_rfl) rfl (fun _ _ _ h => h) (op_extract (vs := [vm84, .bool false]) rfl rfl) rfl ?_
          -- r13.16 t15 := assign  t85
          refine al_take (i := 16) rfl (by kernel_rfl) (by kernel_rfl) (by kernel_rfl) rfl (fun _ _ _ h => h) (op_assign rfl) rfl ?_
          -- r13.17 t16 := assign  t86
          refine al_take (i := 17) rfl (by kernel_rfl) (by kernel_rfl) (by kernel_rfl) rfl (fun _ _ _ h => h) (op_assign rfl) rfl ?_
          refine al_done (by kernel_rfl) ?_
          refine pq_then ?_
          refine cw_seq ?_
          refine cw_region ?_
          -- r14.0 t87 := move  t14
          refine ol_pure rfl (op_move rfl) ?_
          -- r14.1 t88 := move  t87
          refine ol_pure rfl (op_move rfl) ?_
          -- r14.2 t89 := move  t16 ?1=False
          refine ol_guard_pure rfl rfl rfl (op_move rfl) ?_
          -- r14.3 t90 := pick  t88 Ctrue t89
          refine ol_pure rfl (op_pick_f rfl rfl) ?_
          refine ol_nil ?_
          refine pq_then ?_
          refine cw_cond_f rfl ?_
          refine cw_skip ?_
          refine pq_then ?_
          refine cw_seq ?_
          refine cw_seq ?_
          refine cw_region ?_
          -- r16.0 t91 := move  t6
          refine ol_pure rfl (op_move rfl) ?_
          -- r16.1 t92 := call len t91
          refine ol_pure rfl (op_len sl_28 rfl rfl) ?_
          -- r16.2 t93 := gtr t92 C0
          refine ol_pure rfl (op_gtr rfl rfl) ?_
          refine ol_nil ?_
          refine pq_then ?_
          refine cw_cond rfl (fun h93 => ?_) (fun h93 => ?_)
          · skip
            try simp only [decide_eq_true_eq, decide_eq_false_iff_not, Bool.not_eq_true', Bool.not_eq_false', Bool.not_eq_eq_eq_not, Bool.not_true, Bool.not_false] at h93
            obtain ⟨jj, hjj⟩ := Int.eq_ofNat_of_zero_le (Int.emod_nonneg z (show (((stepsI atoms.length rs).1.length : Nat) : Int) ≠ 0 by omega))
            have hjl := Int.emod_lt_of_pos z (show (0 : Int) < ((stepsI atoms.length rs).1.length : Nat) by omega)
            have hlj : jj < (stepsI atoms.length rs).1.length := by omega
            obtain ⟨us, hus, hone, hcs⟩ := hL.cells EStep.one
            obtain ⟨hoL, _, _, ⟨va9, rfl, hva, hsb⟩, hcells⟩ := hL.el hlj
            obtain ⟨oV, cV, rfl, _, _⟩ := hva.elim
            refine cw_seq ?_
            refine cw_region ?_
            -- r17.0 t94 := move  t1
            refine ol_pure rfl (op_move rfl) ?_
            -- r17.1 t95 := convert [5, 3] t94
            refine ol_pure rfl (op_conv ⟨_, Try.underlying5⟩ Try.underlying3 rfl (wrap_u8 hz)) ?_
            -- r17.2 t96 := move  t6
            refine ol_pure rfl (op_move rfl) ?_
            -- r17.3 t97 := call len t96
            refine ol_pure rfl (op_len sl_28 rfl rfl) ?_
            -- r17.4 t98 := rem t95 t97
            refine ol_pure rfl (op_val (op_rem rfl rfl (by omega) (by omega)) (congrArg (Value.int .i64) hjj)) ?_
            -- r17.5 t17 := assign  t98
            refine ol_pure rfl (op_assign rfl) ?_
            refine ol_nil ?_
            refine pq_then ?_
            refine cw_seq ?_
            refine al_start' hS (hS.take 1) (by kernel_rfl) rfl (fun w hS hT => ?_)
            -- r18.0 t100 := load [25] t2
            refine al_load (i := 0) rfl (by kernel_rfl) (by kernel_rfl) (by kernel_rfl) rfl (fun _ _ _ h => h) (by exact op_loadN agg_25 rfl (by rfl) (fun w hw k u hk => (hw.bcell (i := 0) rfl).trans hk)) rfl hT ?_
            -- r18.2 t102 := move  t6
            refine al_take (i := 2) rfl (by kernel_rfl) (by kernel_rfl) (by kernel_rfl) rfl (fun _ _ _ h => h) (op_move rfl) rfl ?_
            -- r18.4 t104 := move  t6
            refine al_take (i := 4) rfl (by kernel_rfl) (by kernel_rfl) (by kernel_rfl) rfl (fun _ _ _ h => h) (op_move rfl) rfl ?_
            -- r18.5 t105 := move  t17
            refine al_take (i := 5) rfl (by kernel_rfl) (by kernel_rfl) (by kernel_rfl) rfl (fun _ _ _ h => h) (op_move rfl) rfl ?_
            -- r18.6 t106 := indexAddr [28] t104 t105
            refine al_take (i := 6) rfl (by kernel_rfl) (by kernel_rfl) (by kernel_rfl) rfl (fun _ _ _ h => h) (op_indexN sl_28 rfl rfl (by omega) hoL) rfl ?_
            -- r18.7 t107 := load [44] t106
            refine al_load (i := 7) rfl (by kernel_rfl) (by kernel_rfl) (by kernel_rfl) rfl (fun _ _ _ h => h) (by exact op_loadN agg_44 rfl (by rfl) (fun w hw k u hk => hw.gcell (hcells k u hk))) rfl hT ?_
            -- r18.10 t110 := move  t8
            refine al_take (i := 10) rfl (by kernel_rfl) (by kernel_rfl) (by kernel_rfl) rfl (fun _ _ _ h => h) (op_move rfl) rfl ?_
            refine al_two (i := 1) (j := 8) (by kernel_rfl) (fun a ha => ?_) (fun a ha => ?_)
            · skip
              refine wpOp_of_opk (i := 1) rfl ha (op_buildSlice (el := 44) (is := []) (xs := []) (sz := 2) (cs := []) hS rfl rfl (fun w => by kernel_rfl) rfl (by decide)) ?_
              clear hS
              rintro _ w ⟨s101, rfl, hS⟩
              have hT := hT.back hS (by first | exact Le.refl _ | assumption) (fun x hx => by try simp only [List.take_succ_cons, List.take_zero, List.mem_cons, List.not_mem_nil, or_false] at hx; (rcases hx with rfl) <;> simp)
              refine ⟨fun _ _ => hT, ?_⟩
              refine al_at ?_ (ha.put (blt_lt rfl) _)
              refine al_two (i := 3) (j := 8) (by kernel_rfl) (fun a ha => ?_) (fun a ha => ?_)
              · skip
                refine wpOp_of_opk (i := 3) rfl ha (op_append (j := 0) (m := (stepsI atoms.length rs).1.length) (news := us) hS sl_28 el_44 rfl rfl rfl rfl rfl hus.1 (by decide) (fun k u hu => ⟨(hcs k u hu).1, hS.hold.cell (hcs k u hu).2⟩) hone (by omega) (by unfold maxLen; omega)) ?_
                clear hS
                rintro _ w ⟨s101n, c_s101n, rfl, hS⟩; (try simp only [List.nil_append, List.cons_append, List.set] at hS)
                have hT := hT.back hS (by first | exact Le.refl _ | assumption) (fun x hx => by try simp only [List.take_succ_cons, List.take_zero, List.mem_cons, List.not_mem_nil, or_false] at hx; (rcases hx with rfl) <;> simp)
                refine ⟨fun _ _ => hT, ?_⟩
                refine al_at ?_ (ha.put (blt_lt rfl) _)
                refine al_step (i := 8) rfl (by kernel_rfl) rfl (op_buildSlice (el := 44) (is := [0]) (xs := [.tmp 107]) (sz := 2) (cs := [.int .i64 (stepsI atoms.length rs).1[jj].rule, .slice oV (stepsI atoms.length rs).1[jj].atoms.length cV]) hS rfl rfl (fun w => by kernel_rfl) rfl (by decide)) ?_
                clear hS
                rintro _ w ⟨s108, rfl, hS⟩
                have hT := hT.back hS (by first | exact Le.refl _ | assumption) (fun x hx => by try simp only [List.take_succ_cons, List.take_zero, List.mem_cons, List.not_mem_nil, or_false] at hx; (rcases hx with rfl) <;> simp)
                refine ⟨fun _ _ => hT, ?_⟩
                refine al_step (i := 9) rfl (by kernel_rfl) rfl (op_append (j := 1) hS sl_28 el_44 rfl rfl rfl rfl rfl rfl (by decide) (hS.news (j := 0) rfl) (by simp [Value.oneCell']) (by omega) (by unfold maxLen; omega)) ?_
                clear hS
                rintro _ w ⟨s101nn, c_s101nn, rfl, hS⟩; (try simp only [List.nil_append, List.cons_append, List.set] at hS); replace hS := SS.drop [] hS; (try simp only [List.nil_append, List.cons_append] at hS)
                have hL8 := hL
                obtain ⟨G9, hl9, hS2, hL9b⟩ := SS.give' ((stepsI atoms.length rs).1 ++ [(stepsI atoms.length rs).1[jj]]) [] EStep.mono hS (by decide) (by exact (hus.snoc (x := (stepsI atoms.length rs).1[jj]) (cs := [.int .i64 (stepsI atoms.length rs).1[jj].rule, .slice oV (stepsI atoms.length rs).1[jj].atoms.length cV]) rfl ⟨_, rfl, hva, hsb⟩)) (by simp)
                clear hS
                have hS := hS2
                clear hS2
                (try simp only [List.nil_append, List.cons_append] at hS)
                replace hL := hL.mono EStep.mono hl9
                replace hH := hH.mono EInt.mono hl9
                have hT := hT.back hS (by first | exact Le.refl _ | assumption) (fun x hx => by try simp only [List.take_succ_cons, List.take_zero, List.mem_cons, List.not_mem_nil, or_false] at hx; (rcases hx with rfl) <;> simp)
                refine ⟨fun _ _ => hT, ?_⟩
                -- r18.11 t111 := build [31] 0:t109 1:t110
                refine al_take (i := 11) rfl (by kernel_rfl) (by kernel_rfl) (by kernel_rfl) rfl (fun _ _ _ h => h) (op_build (is := [0, 1]) (xs := [.tmp 109, .tmp 110]) (v := .agg #[.slice s101nn (0 + (stepsI atoms.length rs).1.length + 1) c_s101nn, .slice oH (holdsI atoms.length rs (stepsI atoms.length rs).2).length cH]) rfl rfl (fun w => by kernel_rfl)) rfl ?_
                refine al_step (i := 12) rfl (by kernel_rfl) rfl (op_call_fr hS cf_14 rfl (judge_Check_c _ _ hS.hold _ _ atoms rs (h1.mono EAtom.mono hS.le) (h2.mono ERule.mono hS.le) hP _ _ ((stepsI atoms.length rs).1 ++ [(stepsI atoms.length rs).1[jj]]) (holdsI atoms.length rs (stepsI atoms.length rs).2) hL9b hH)) ?_
                clear hS
                rintro v112 w ⟨F112, G112, hR112, hF112, hf112, hl112, hS⟩
                obtain ⟨vm112, hv, _⟩ := hR112
                rw [strict3 hbt hlj] at hv
                simp only [Option.isSome_none] at hv
                subst hv
                replace hL := hL.mono EStep.mono hl112
                replace hH := hH.mono EInt.mono hl112
                have hx112 := hl9.trans hl112
                have hT := hT.back hS (by first | exact Le.refl _ | assumption) (fun x hx => by try simp only [List.take_succ_cons, List.take_zero, List.mem_cons, List.not_mem_nil, or_false] at hx; (rcases hx with rfl) <;> simp)
                refine ⟨fun _ _ => hT, ?_⟩
                -- r18.13 t99 := move  t112
                refine al_take (i := 13) rfl (by kernel_rfl) (by kernel_rfl) (by kernel_rfl) rfl (fun _ _ _ h => h) (op_move rfl) rfl ?_
                -- r18.14 t113 := extract [0] t99
                refine al_take (i := 14) rfl (by kernel_rfl) (by kernel_rfl) (by kernel_rfl) rfl (fun _ _ _ h => h) (op_extract (vs := [vm112, .bool false]) rfl rfl) rfl ?_
                -- r18.15 t114 := extract [1] t99
                refine al_take (i := 15) rfl (by kernel_rfl) (by kernel_rfl) (by kernel_rfl) rfl (fun _ _ _ h => h) (op_extract (vs := [vm112, .bool false]) rfl rfl) rfl ?_
                -- r18.16 t18 := assign  t113
                refine al_take (i := 16) rfl (by kernel_rfl) (by kernel_rfl) (by kernel_rfl) rfl (fun _ _ _ h => h) (op_assign rfl) rfl ?_
                -- r18.17 t19 := assign  t114
                refine al_take (i := 17) rfl (by kernel_rfl) (by kernel_rfl) (by kernel_rfl) rfl (fun _ _ _ h => h) (op_assign rfl) rfl ?_
                refine al_done (by kernel_rfl) ?_
                refine pq_then ?_
                refine cw_seq ?_
                refine al_start' hS (hS.take 1) (by kernel_rfl) rfl (fun w hS hT => ?_)
                -- r19.0 t116 := load [25] t2
                refine al_load (i := 0) rfl (by kernel_rfl) (by kernel_rfl) (by kernel_rfl) rfl (fun _ _ _ h => h) (by exact op_loadN agg_25 rfl (by rfl) (fun w hw k u hk => (hw.bcell (i := 0) rfl).trans hk)) rfl hT ?_
                -- r19.1 t117 := move  t6
                refine al_take (i := 1) rfl (by kernel_rfl) (by kernel_rfl) (by kernel_rfl) rfl (fun _ _ _ h => h) (op_move rfl) rfl ?_
                -- r19.2 t118 := move  t6
                refine al_take (i := 2) rfl (by kernel_rfl) (by kernel_rfl) (by kernel_rfl) rfl (fun _ _ _ h => h) (op_move rfl) rfl ?_
                -- r19.3 t119 := call len t118
                refine al_take (i := 3) rfl (by kernel_rfl) (by kernel_rfl) (by kernel_rfl) rfl (fun _ _ _ h => h) (op_len sl_28 rfl rfl) rfl ?_
                -- r19.4 t120 := sub t119 C1
                refine al_take (i := 4) rfl (by kernel_rfl) (by kernel_rfl) (by kernel_rfl) rfl (fun _ _ _ h => h) (op_val (op_sub rfl rfl (by omega) (by omega)) (v' := .int .i64 (((stepsI atoms.length rs).1.length - 1 : Nat) : Int)) (congrArg (Value.int .i64) (by omega))) rfl ?_
                -- r19.5 t121 := slice t117 [:t120:]
                have hcut3 := hL.cut (lo := 0) (hi := (stepsI atoms.length rs).1.length - 1) (Nat.zero_le _) (by omega)
                obtain ⟨oQ, cQ, hQ, _, _⟩ := hcut3.elimN (n := (stepsI atoms.length rs).1.length - 1) (by simp)
                rw [hQ, List.drop_zero] at hcut3
                refine al_take (i := 5) rfl (by kernel_rfl) (by kernel_rfl) (by kernel_rfl) rfl (fun _ _ _ h => h) (op_val (op_slice_h (h := (stepsI atoms.length rs).1.length - 1) sl_28 rfl rfl (by omega)) hQ) rfl ?_
                -- r19.6 t122 := move  t8
                refine al_take (i := 6) rfl (by kernel_rfl) (by kernel_rfl) (by kernel_rfl) rfl (fun _ _ _ h => h) (op_move rfl) rfl ?_
                -- r19.7 t123 := build [31] 0:t121 1:t122
                refine al_take (i := 7) rfl (by kernel_rfl) (by kernel_rfl) (by kernel_rfl) rfl (fun _ _ _ h => h) (op_build (is := [0, 1]) (xs := [.tmp 121, .tmp 122]) (v := .agg #[.slice oQ ((stepsI atoms.length rs).1.length - 1) cQ, .slice oH (holdsI atoms.length rs (stepsI atoms.length rs).2).length cH]) rfl rfl (fun w => by kernel_rfl)) rfl ?_
                refine al_step (i := 8) rfl (by kernel_rfl) rfl (op_call_fr hS cf_14 rfl (judge_Check_c _ _ hS.hold _ _ atoms rs (h1.mono EAtom.mono hS.le) (h2.mono ERule.mono hS.le) hP _ _ ((stepsI atoms.length rs).1.take ((stepsI atoms.length rs).1.length - 1)) (holdsI atoms.length rs (stepsI atoms.length rs).2) hcut3 hH)) ?_
                clear hS
                rintro v124 w ⟨F124, G124, hR124, hF124, hf124, hl124, hS⟩
                obtain ⟨vm124, hv, _⟩ := hR124
                rw [strict4 hbt (by omega)] at hv
                simp only [Option.isSome_none] at hv
                subst hv
                replace hL := hL.mono EStep.mono hl124
                replace hH := hH.mono EInt.mono hl124
                refine ⟨no_need (by kernel_rfl), ?_⟩
                -- r19.9 t115 := move  t124
                refine al_take (i := 9) rfl (by kernel_rfl) (by kernel_rfl) (by kernel_rfl) rfl (fun _ _ _ h => h) (op_move rfl) rfl ?_
                -- r19.10 t125 := extract [0] t115
                refine al_take (i := 10) rfl (by kernel_rfl) (by kernel_rfl) (by kernel_rfl) rfl (fun _ _ _ h => h) (op_extract (vs := [vm124, .bool false]) rfl rfl) rfl ?_
                -- r19.11 t126 := extract [1] t115
                refine al_take (i := 11) rfl (by kernel_rfl) (by kernel_rfl) (by kernel_rfl) rfl (fun _ _ _ h => h) (op_extract (vs := [vm124, .bool false]) rfl rfl) rfl ?_
                -- r19.12 t20 := assign  t125
                refine al_take (i := 12) rfl (by kernel_rfl) (by kernel_rfl) (by kernel_rfl) rfl (fun _ _ _ h => h) (op_assign rfl) rfl ?_
                -- r19.13 t21 := assign  t126
                refine al_take (i := 13) rfl (by kernel_rfl) (by kernel_rfl) (by kernel_rfl) rfl (fun _ _ _ h => h) (op_assign rfl) rfl ?_
                refine al_done (by kernel_rfl) ?_
                refine pq_then ?_
                refine cw_seq ?_
                refine cw_region ?_
                -- r20.0 t127 := move  t19
                refine ol_pure rfl (op_move rfl) ?_
                -- r20.1 t128 := move  t127
                refine ol_pure rfl (op_move rfl) ?_
                -- r20.2 t129 := move  t21 ?1=False
                refine ol_guard_pure rfl rfl rfl (op_move rfl) ?_
                -- r20.3 t130 := pick  t128 Ctrue t129
                refine ol_pure rfl (op_pick_f rfl rfl) ?_
                refine ol_nil ?_
                refine pq_then ?_
                refine cw_cond_f rfl ?_
                refine cw_skip ?_
                refine pq_then ?_
                refine cw_seq ?_
                refine cw_region ?_
                -- r22.0 t131 := move  t5
                refine ol_pure rfl (op_move rfl) ?_
                -- r22.1 t4 := assign  t131
                refine ol_pure rfl (op_assign rfl) ?_
                refine ol_nil ?_
                refine pq_then ?_
                refine cw_ret ?_
                refine ret1 rfl rfl ?_
                -- ret5 h25f h47t o2 o4 h93t o1 o3
                exact hS.sc_b rfl
              · skip
                refine wpOp_of_opk (i := 8) rfl ha (op_buildSlice (el := 44) (is := [0]) (xs := [.tmp 107]) (sz := 2) (cs := [.int .i64 (stepsI atoms.length rs).1[jj].rule, .slice oV (stepsI atoms.length rs).1[jj].atoms.length cV]) hS rfl rfl (fun w => by kernel_rfl) rfl (by decide)) ?_
                clear hS
                rintro _ w ⟨s108, rfl, hS⟩
                have hT := hT.back hS (by first | exact Le.refl _ | assumption) (fun x hx => by try simp only [List.take_succ_cons, List.take_zero, List.mem_cons, List.not_mem_nil, or_false] at hx; (rcases hx with rfl) <;> simp)
                refine ⟨fun _ _ => hT, ?_⟩
                refine al_at ?_ (ha.put (blt_lt rfl) _)
                refine al_step (i := 3) rfl (by kernel_rfl) rfl (op_append (j := 1) (m := (stepsI atoms.length rs).1.length) (news := us) hS sl_28 el_44 rfl rfl rfl rfl rfl hus.1 (by decide) (fun k u hu => ⟨(hcs k u hu).1, hS.hold.cell (hcs k u hu).2⟩) hone (by omega) (by unfold maxLen; omega)) ?_
                clear hS
                rintro _ w ⟨s101n, c_s101n, rfl, hS⟩; (try simp only [List.nil_append, List.cons_append, List.set] at hS)
                have hT := hT.back hS (by first | exact Le.refl _ | assumption) (fun x hx => by try simp only [List.take_succ_cons, List.take_zero, List.mem_cons, List.not_mem_nil, or_false] at hx; (rcases hx with rfl) <;> simp)
                refine ⟨fun _ _ => hT, ?_⟩
                refine al_step (i := 9) rfl (by kernel_rfl) rfl (op_append (j := 1) hS sl_28 el_44 rfl rfl rfl rfl rfl rfl (by decide) (hS.news (j := 0) rfl) (by simp [Value.oneCell']) (by omega) (by unfold maxLen; omega)) ?_
                clear hS
                rintro _ w ⟨s101nn, c_s101nn, rfl, hS⟩; (try simp only [List.nil_append, List.cons_append, List.set] at hS); replace hS := SS.drop [] hS; (try simp only [List.nil_append, List.cons_append] at hS)
                have hL8 := hL
                obtain ⟨G9, hl9, hS2, hL9b⟩ := SS.give' ((stepsI atoms.length rs).1 ++ [(stepsI atoms.length rs).1[jj]]) [] EStep.mono hS (by decide) (by exact (hus.snoc (x := (stepsI atoms.length rs).1[jj]) (cs := [.int .i64 (stepsI atoms.length rs).1[jj].rule, .slice oV (stepsI atoms.length rs).1[jj].atoms.length cV]) rfl ⟨_, rfl, hva, hsb⟩)) (by simp)
                clear hS
                have hS := hS2
                clear hS2
                (try simp only [List.nil_append, List.cons_append] at hS)
                replace hL := hL.mono EStep.mono hl9
                replace hH := hH.mono EInt.mono hl9
                have hT := hT.back hS (by first | exact Le.refl _ | assumption) (fun x hx => by try simp only [List.take_succ_cons, List.take_zero, List.mem_cons, List.not_mem_nil, or_false] at hx; (rcases hx with rfl) <;> simp)
                refine ⟨fun _ _ => hT, ?_⟩
                -- r18.11 t111 := build [31] 0:t109 1:t110
                refine al_take (i := 11) rfl (by kernel_rfl) (by kernel_rfl) (by kernel_rfl) rfl (fun _ _ _ h => h) (op_build (is := [0, 1]) (xs := [.tmp 109, .tmp 110]) (v := .agg #[.slice s101nn (0 + (stepsI atoms.length rs).1.length + 1) c_s101nn, .slice oH (holdsI atoms.length rs (stepsI atoms.length rs).2).length cH]) rfl rfl (fun w => by kernel_rfl)) rfl ?_
                refine al_step (i := 12) rfl (by kernel_rfl) rfl (op_call_fr hS cf_14 rfl (judge_Check_c _ _ hS.hold _ _ atoms rs (h1.mono EAtom.mono hS.le) (h2.mono ERule.mono hS.le) hP _ _ ((stepsI atoms.length rs).1 ++ [(stepsI atoms.length rs).1[jj]]) (holdsI atoms.length rs (stepsI atoms.length rs).2) hL9b hH)) ?_
                clear hS
                rintro v112 w ⟨F112, G112, hR112, hF112, hf112, hl112, hS⟩
                obtain ⟨vm112, hv, _⟩ := hR112
                rw [strict3 hbt hlj] at hv
                simp only [Option.isSome_none] at hv
                subst hv
                replace hL := hL.mono EStep.mono hl112
                replace hH := hH.mono EInt.mono hl112
                have hx112 := hl9.trans hl112
                have hT := hT.back hS (by first | exact Le.refl _ | assumption) (fun x hx => by try simp only [List.take_succ_cons, List.take_zero, List.mem_cons, List.not_mem_nil, or_false] at hx; (rcases hx with rfl) <;> simp)
                refine ⟨fun _ _ => hT, ?_⟩
                -- r18.13 t99 := move  t112
                refine al_take (i := 13) rfl (by kernel_rfl) (by kernel_rfl) (by kernel_rfl) rfl (fun _ _ _ h => h) (op_move rfl) rfl ?_
                -- r18.14 t113 := extract [0] t99
                refine al_take (i := 14) rfl (by kernel_rfl) (by kernel_rfl) (by kernel_rfl) rfl (fun _ _ _ h => h) (op_extract (vs := [vm112, .bool false]) rfl rfl) rfl ?_
                -- r18.15 t114 := extract [1] t99
                refine al_take (i := 15) rfl (by kernel_rfl) (by kernel_rfl) (by kernel_rfl) rfl (fun _ _ _ h => h) (op_extract (vs := [vm112, .bool false]) rfl rfl) rfl ?_
                -- r18.16 t18 := assign  t113
                refine al_take (i := 16) rfl (by kernel_rfl) (by kernel_rfl) (by kernel_rfl) rfl (fun _ _ _ h => h) (op_assign rfl) rfl ?_
                -- r18.17 t19 := assign  t114
                refine al_take (i := 17) rfl (by kernel_rfl) (by kernel_rfl) (by kernel_rfl) rfl (fun _ _ _ h => h) (op_assign rfl) rfl ?_
                refine al_done (by kernel_rfl) ?_
                refine pq_then ?_
                refine cw_seq ?_
                refine al_start' hS (hS.take 1) (by kernel_rfl) rfl (fun w hS hT => ?_)
                -- r19.0 t116 := load [25] t2
                refine al_load (i := 0) rfl (by kernel_rfl) (by kernel_rfl) (by kernel_rfl) rfl (fun _ _ _ h => h) (by exact op_loadN agg_25 rfl (by rfl) (fun w hw k u hk => (hw.bcell (i := 0) rfl).trans hk)) rfl hT ?_
                -- r19.1 t117 := move  t6
                refine al_take (i := 1) rfl (by kernel_rfl) (by kernel_rfl) (by kernel_rfl) rfl (fun _ _ _ h => h) (op_move rfl) rfl ?_
                -- r19.2 t118 := move  t6
                refine al_take (i := 2) rfl (by kernel_rfl) (by kernel_rfl) (by kernel_rfl) rfl (fun _ _ _ h => h) (op_move rfl) rfl ?_
                -- r19.3 t119 := call len t118
                refine al_take (i := 3) rfl (by kernel_rfl) (by kernel_rfl) (by kernel_rfl) rfl (fun _ _ _ h => h) (op_len sl_28 rfl rfl) rfl ?_
                -- r19.4 t120 := sub t119 C1
                refine al_take (i := 4) rfl (by kernel_rfl) (by kernel_rfl) (by kernel_rfl) rfl (fun _ _ _ h => h) (op_val (op_sub rfl rfl (by omega) (by omega)) (v' := .int .i64 (((stepsI atoms.length rs).1.length - 1 : Nat) : Int)) (congrArg (Value.int .i64) (by omega))) rfl ?_
                -- r19.5 t121 := slice t117 [:t120:]
                have hcut3 := hL.cut (lo := 0) (hi := (stepsI atoms.length rs).1.length - 1) (Nat.zero_le _) (by omega)
                obtain ⟨oQ, cQ, hQ, _, _⟩ := hcut3.elimN (n := (stepsI atoms.length rs).1.length - 1) (by simp)
                rw [hQ, List.drop_zero] at hcut3
                refine al_take (i := 5) rfl (by kernel_rfl) (by kernel_rfl) (by kernel_rfl) rfl (fun _ _ _ h => h) (op_val (op_slice_h (h := (stepsI atoms.length rs).1.length - 1) sl_28 rfl rfl (by omega)) hQ) rfl ?_
                -- r19.6 t122 := move  t8
                refine al_take (i := 6) rfl (by kernel_rfl) (by kernel_rfl) (by kernel_rfl) rfl (fun _ _ _ h => h) (op_move rfl) rfl ?_
                -- r19.7 t123 := build [31] 0:t121 1:t122
                refine al_take (i := 7) rfl (by kernel_rfl) (by kernel_rfl) (by kernel_rfl) rfl (fun _ _ _ h => h) (op_build (is := [0, 1]) (xs := [.tmp 121, .tmp 122]) (v := .agg #[.slice oQ ((stepsI atoms.length rs).1.length - 1) cQ, .slice oH (holdsI atoms.length rs (stepsI atoms.length rs).2).length cH]) rfl rfl (fun w => by kernel_rfl)) rfl ?_
                refine al_step (i := 8) rfl (by kernel_rfl) rfl (op_call_fr hS cf_14 rfl (judge_Check_c _ _ hS.hold _ _ atoms rs (h1.mono EAtom.mono hS.le) (h2.mono ERule.mono hS.le) hP _ _ ((stepsI atoms.length rs).1.take ((stepsI atoms.length rs).1.length - 1)) (holdsI atoms.length rs (stepsI atoms.length rs).2) hcut3 hH)) ?_
                clear hS
                rintro v124 w ⟨F124, G124, hR124, hF124, hf124, hl124, hS⟩
                obtain ⟨vm124, hv, _⟩ := hR124
                rw [strict4 hbt (by omega)] at hv
                simp only [Option.isSome_none] at hv
                subst hv
                replace hL := hL.mono EStep.mono hl124
                replace hH := hH.mono EInt.mono hl124
                refine ⟨no_need (by kernel_rfl), ?_⟩
                -- r19.9 t115 := move  t124
                refine al_take (i := 9) rfl (by kernel_rfl) (by kernel_rfl) (by kernel_rfl) rfl (fun _ _ _ h => h) (op_move rfl) rfl ?_
                -- r19.10 t125 := extract [0] t115
                refine al_take (i := 10) rfl (by kernel_rfl) (by kernel_rfl) (by kernel_rfl) rfl (fun _ _ _ h => h) (op_extract (vs := [vm124, .bool false]) rfl rfl) rfl ?_
                -- r19.11 t126 := extract [1] t115
                refine al_take (i := 11) rfl (by kernel_rfl) (by kernel_rfl) (by kernel_rfl) rfl (fun _ _ _ h => h) (op_extract (vs := [vm124, .bool false]) rfl rfl) rfl ?_
                -- r19.12 t20 := assign  t125
                refine al_take (i := 12) rfl (by kernel_rfl) (by kernel_rfl) (by kernel_rfl) rfl (fun _ _ _ h => h) (op_assign rfl) rfl ?_
                -- r19.13 t21 := assign  t126
                refine al_take (i := 13) rfl (by kernel_rfl) (by kernel_rfl) (by kernel_rfl) rfl (fun _ _ _ h => h) (op_assign rfl) rfl ?_
                refine al_done (by kernel_rfl) ?_
                refine pq_then ?_
                refine cw_seq ?_
                refine cw_region ?_
                -- r20.0 t127 := move  t19
                refine ol_pure rfl (op_move rfl) ?_
                -- r20.1 t128 := move  t127
                refine ol_pure rfl (op_move rfl) ?_
                -- r20.2 t129 := move  t21 ?1=False
                refine ol_guard_pure rfl rfl rfl (op_move rfl) ?_
                -- r20.3 t130 := pick  t128 Ctrue t129
                refine ol_pure rfl (op_pick_f rfl rfl) ?_
                refine ol_nil ?_
                refine pq_then ?_
                refine cw_cond_f rfl ?_
                refine cw_skip ?_
                refine pq_then ?_
                refine cw_seq ?_
                refine cw_region ?_
                -- r22.0 t131 := move  t5
                refine ol_pure rfl (op_move rfl) ?_
                -- r22.1 t4 := assign  t131
                refine ol_pure rfl (op_assign rfl) ?_
                refine ol_nil ?_
                refine pq_then ?_
                refine cw_ret ?_
                refine ret1 rfl rfl ?_
                -- ret5 h25f h47t o2 o4 h93t o1 o8
                exact hS.sc_b rfl
            · skip
              refine wpOp_of_opk (i := 8) rfl ha (op_buildSlice (el := 44) (is := [0]) (xs := [.tmp 107]) (sz := 2) (cs := [.int .i64 (stepsI atoms.length rs).1[jj].rule, .slice oV (stepsI atoms.length rs).1[jj].atoms.length cV]) hS rfl rfl (fun w => by kernel_rfl) rfl (by decide)) ?_
              clear hS
              rintro _ w ⟨s108, rfl, hS⟩
              have hT := hT.back hS (by first | exact Le.refl _ | assumption) (fun x hx => by try simp only [List.take_succ_cons, List.take_zero, List.mem_cons, List.not_mem_nil, or_false] at hx; (rcases hx with rfl) <;> simp)
              refine ⟨fun _ _ => hT, ?_⟩
              refine al_at ?_ (ha.put (blt_lt rfl) _)
              refine al_step (i := 1) rfl (by kernel_rfl) rfl (op_buildSlice (el := 44) (is := []) (xs := []) (sz := 2) (cs := []) hS rfl rfl (fun w => by kernel_rfl) rfl (by decide)) ?_
              clear hS
              rintro _ w ⟨s101, rfl, hS⟩
              have hT := hT.back hS (by first | exact Le.refl _ | assumption) (fun x hx => by try simp only [List.take_succ_cons, List.take_zero, List.mem_cons, List.not_mem_nil, or_false] at hx; (rcases hx with rfl) <;> simp)
              refine ⟨fun _ _ => hT, ?_⟩
              refine al_step (i := 3) rfl (by kernel_rfl) rfl (op_append (j := 0) (m := (stepsI atoms.length rs).1.length) (news := us) hS sl_28 el_44 rfl rfl rfl rfl rfl hus.1 (by decide) (fun k u hu => ⟨(hcs k u hu).1, hS.hold.cell (hcs k u hu).2⟩) hone (by omega) (by unfold maxLen; omega)) ?_
              clear hS
              rintro _ w ⟨s101n, c_s101n, rfl, hS⟩; (try simp only [List.nil_append, List.cons_append, List.set] at hS)
              have hT := hT.back hS (by first | exact Le.refl _ | assumption) (fun x hx => by try simp only [List.take_succ_cons, List.take_zero, List.mem_cons, List.not_mem_nil, or_false] at hx; (rcases hx with rfl) <;> simp)
              refine ⟨fun _ _ => hT, ?_⟩
              refine al_step (i := 9) rfl (by kernel_rfl) rfl (op_append (j := 0) hS sl_28 el_44 rfl rfl rfl rfl rfl rfl (by decide) (hS.news (j := 1) rfl) (by simp [Value.oneCell']) (by omega) (by unfold maxLen; omega)) ?_
              clear hS
              rintro _ w ⟨s101nn, c_s101nn, rfl, hS⟩; (try simp only [List.nil_append, List.cons_append, List.set] at hS); replace hS := SS.drop [_] hS; (try simp only [List.nil_append, List.cons_append] at hS)
              have hL8 := hL
              obtain ⟨G9, hl9, hS2, hL9b⟩ := SS.give' ((stepsI atoms.length rs).1 ++ [(stepsI atoms.length rs).1[jj]]) [] EStep.mono hS (by decide) (by exact (hus.snoc (x := (stepsI atoms.length rs).1[jj]) (cs := [.int .i64 (stepsI atoms.length rs).1[jj].rule, .slice oV (stepsI atoms.length rs).1[jj].atoms.length cV]) rfl ⟨_, rfl, hva, hsb⟩)) (by simp)
              clear hS
              have hS := hS2
              clear hS2
              (try simp only [List.nil_append, List.cons_append] at hS)
              replace hL := hL.mono EStep.mono hl9
              replace hH := hH.mono EInt.mono hl9
              have hT := hT.back hS (by first | exact Le.refl _ | assumption) (fun x hx => by try simp only [List.take_succ_cons, List.take_zero, List.mem_cons, List.not_mem_nil, or_false] at hx; (rcases hx with rfl) <;> simp)
              refine ⟨fun _ _ => hT, ?_⟩
              -- r18.11 t111 := build [31] 0:t109 1:t110
              refine al_take (i := 11) rfl (by kernel_rfl) (by kernel_rfl) (by kernel_rfl) rfl (fun _ _ _ h => h) (op_build (is := [0, 1]) (xs := [.tmp 109, .tmp 110]) (v := .agg #[.slice s101nn (0 + (stepsI atoms.length rs).1.length + 1) c_s101nn, .slice oH (holdsI atoms.length rs (stepsI atoms.length rs).2).length cH]) rfl rfl (fun w => by kernel_rfl)) rfl ?_
              refine al_step (i := 12) rfl (by kernel_rfl) rfl (op_call_fr hS cf_14 rfl (judge_Check_c _ _ hS.hold _ _ atoms rs (h1.mono EAtom.mono hS.le) (h2.mono ERule.mono hS.le) hP _ _ ((stepsI atoms.length rs).1 ++ [(stepsI atoms.length rs).1[jj]]) (holdsI atoms.length rs (stepsI atoms.length rs).2) hL9b hH)) ?_
              clear hS
              rintro v112 w ⟨F112, G112, hR112, hF112, hf112, hl112, hS⟩
              obtain ⟨vm112, hv, _⟩ := hR112
              rw [strict3 hbt hlj] at hv
              simp only [Option.isSome_none] at hv
              subst hv
              replace hL := hL.mono EStep.mono hl112
              replace hH := hH.mono EInt.mono hl112
              have hx112 := hl9.trans hl112
              have hT := hT.back hS (by first | exact Le.refl _ | assumption) (fun x hx => by try simp only [List.take_succ_cons, List.take_zero, List.mem_cons, List.not_mem_nil, or_false] at hx; (rcases hx with rfl) <;> simp)
              refine ⟨fun _ _ => hT, ?_⟩
              -- r18.13 t99 := move  t112
              refine al_take (i := 13) rfl (by kernel_rfl) (by kernel_rfl) (by kernel_rfl) rfl (fun _ _ _ h => h) (op_move rfl) rfl ?_
              -- r18.14 t113 := extract [0] t99
              refine al_take (i := 14) rfl (by kernel_rfl) (by kernel_rfl) (by kernel_rfl) rfl (fun _ _ _ h => h) (op_extract (vs := [vm112, .bool false]) rfl rfl) rfl ?_
              -- r18.15 t114 := extract [1] t99
              refine al_take (i := 15) rfl (by kernel_rfl) (by kernel_rfl) (by kernel_rfl) rfl (fun _ _ _ h => h) (op_extract (vs := [vm112, .bool false]) rfl rfl) rfl ?_
              -- r18.16 t18 := assign  t113
              refine al_take (i := 16) rfl (by kernel_rfl) (by kernel_rfl) (by kernel_rfl) rfl (fun _ _ _ h => h) (op_assign rfl) rfl ?_
              -- r18.17 t19 := assign  t114
              refine al_take (i := 17) rfl (by kernel_rfl) (by kernel_rfl) (by kernel_rfl) rfl (fun _ _ _ h => h) (op_assign rfl) rfl ?_
              refine al_done (by kernel_rfl) ?_
              refine pq_then ?_
              refine cw_seq ?_
              refine al_start' hS (hS.take 1) (by kernel_rfl) rfl (fun w hS hT => ?_)
              -- r19.0 t116 := load [25] t2
              refine al_load (i := 0) rfl (by kernel_rfl) (by kernel_rfl) (by kernel_rfl) rfl (fun _ _ _ h => h) (by exact op_loadN agg_25 rfl (by rfl) (fun w hw k u hk => (hw.bcell (i := 0) rfl).trans hk)) rfl hT ?_
              -- r19.1 t117 := move  t6
              refine al_take (i := 1) rfl (by kernel_rfl) (by kernel_rfl) (by kernel_rfl) rfl (fun _ _ _ h => h) (op_move rfl) rfl ?_
              -- r19.2 t118 := move  t6
              refine al_take (i := 2) rfl (by kernel_rfl) (by kernel_rfl) (by kernel_rfl) rfl (fun _ _ _ h => h) (op_move rfl) rfl ?_
              -- r19.3 t119 := call len t118
              refine al_take (i := 3) rfl (by kernel_rfl) (by kernel_rfl) (by kernel_rfl) rfl (fun _ _ _ h => h) (op_len sl_28 rfl rfl) rfl ?_
              -- r19.4 t120 := sub t119 C1
              refine al_take (i := 4) rfl (by kernel_rfl) (by kernel_rfl) (by kernel_rfl) rfl (fun _ _ _ h => h) (op_val (op_sub rfl rfl (by omega) (by omega)) (v' := .int .i64 (((stepsI atoms.length rs).1.length - 1 : Nat) : Int)) (congrArg (Value.int .i64) (by omega))) rfl ?_
              -- r19.5 t121 := slice t117 [:t120:]
              have hcut3 := hL.cut (lo := 0) (hi := (stepsI atoms.length rs).1.length - 1) (Nat.zero_le _) (by omega)
              obtain ⟨oQ, cQ, hQ, _, _⟩ := hcut3.elimN (n := (stepsI atoms.length rs).1.length - 1) (by simp)
              rw [hQ, List.drop_zero] at hcut3
              refine al_take (i := 5) rfl (by kernel_rfl) (by kernel_rfl) (by kernel_rfl) rfl (fun _ _ _ h => h) (op_val (op_slice_h (h := (stepsI atoms.length rs).1.length - 1) sl_28 rfl rfl (by omega)) hQ) rfl ?_
              -- r19.6 t122 := move  t8
              refine al_take (i := 6) rfl (by kernel_rfl) (by kernel_rfl) (by kernel_rfl) rfl (fun _ _ _ h => h) (op_move rfl) rfl ?_
              -- r19.7 t123 := build [31] 0:t121 1:t122
              refine al_take (i := 7) rfl (by kernel_rfl) (by kernel_rfl) (by kernel_rfl) rfl (fun _ _ _ h => h) (op_build (is := [0, 1]) (xs := [.tmp 121, .tmp 122]) (v := .agg #[.slice oQ ((stepsI atoms.length rs).1.length - 1) cQ, .slice oH (holdsI atoms.length rs (stepsI atoms.length rs).2).length cH]) rfl rfl (fun w => by kernel_rfl)) rfl ?_
              refine al_step (i := 8) rfl (by kernel_rfl) rfl (op_call_fr hS cf_14 rfl (judge_Check_c _ _ hS.hold _ _ atoms rs (h1.mono EAtom.mono hS.le) (h2.mono ERule.mono hS.le) hP _ _ ((stepsI atoms.length rs).1.take ((stepsI atoms.length rs).1.length - 1)) (holdsI atoms.length rs (stepsI atoms.length rs).2) hcut3 hH)) ?_
              clear hS
              rintro v124 w ⟨F124, G124, hR124, hF124, hf124, hl124, hS⟩
              obtain ⟨vm124, hv, _⟩ := hR124
              rw [strict4 hbt (by omega)] at hv
              simp only [Option.isSome_none] at hv
              subst hv
              replace hL := hL.mono EStep.mono hl124
              replace hH := hH.mono EInt.mono hl124
              refine ⟨no_need (by kernel_rfl), ?_⟩
              -- r19.9 t115 := move  t124
              refine al_take (i := 9) rfl (by kernel_rfl) (by kernel_rfl) (by kernel_rfl) rfl (fun _ _ _ h => h) (op_move rfl) rfl ?_
              -- r19.10 t125 := extract [0] t115
              refine al_take (i := 10) rfl (by kernel_rfl) (by kernel_rfl) (by kernel_rfl) rfl (fun _ _ _ h => h) (op_extract (vs := [vm124, .bool false]) rfl rfl) rfl ?_
              -- r19.11 t126 := extract [1] t115
              refine al_take (i := 11) rfl (by kernel_rfl) (by kernel_rfl) (by kernel_rfl) rfl (fun _ _ _ h => h) (op_extract (vs := [vm124, .bool false]) rfl rfl) rfl ?_
              -- r19.12 t20 := assign  t125
              refine al_take (i := 12) rfl (by kernel_rfl) (by kernel_rfl) (by kernel_rfl) rfl (fun _ _ _ h => h) (op_assign rfl) rfl ?_
              -- r19.13 t21 := assign  t126
              refine al_take (i := 13) rfl (by kernel_rfl) (by kernel_rfl) (by kernel_rfl) rfl (fun _ _ _ h => h) (op_assign rfl) rfl ?_
              refine al_done (by kernel_rfl) ?_
              refine pq_then ?_
              refine cw_seq ?_
              refine cw_region ?_
              -- r20.0 t127 := move  t19
              refine ol_pure rfl (op_move rfl) ?_
              -- r20.1 t128 := move  t127
              refine ol_pure rfl (op_move rfl) ?_
              -- r20.2 t129 := move  t21 ?1=False
              refine ol_guard_pure rfl rfl rfl (op_move rfl) ?_
              -- r20.3 t130 := pick  t128 Ctrue t129
              refine ol_pure rfl (op_pick_f rfl rfl) ?_
              refine ol_nil ?_
              refine pq_then ?_
              refine cw_cond_f rfl ?_
              refine cw_skip ?_
              refine pq_then ?_
              refine cw_seq ?_
              refine cw_region ?_
              -- r22.0 t131 := move  t5
              refine ol_pure rfl (op_move rfl) ?_
              -- r22.1 t4 := assign  t131
              refine ol_pure rfl (op_assign rfl) ?_
              refine ol_nil ?_
              refine pq_then ?_
              refine cw_ret ?_
              refine ret1 rfl rfl ?_
              -- ret5 h25f h47t o2 o4 h93t o8
              exact hS.sc_b rfl
          · skip
            try simp only [decide_eq_true_eq, decide_eq_false_iff_not, Bool.not_eq_true', Bool.not_eq_false', Bool.not_eq_eq_eq_not, Bool.not_true, Bool.not_false] at h93
            refine cw_skip ?_
            refine pq_then ?_
            refine cw_seq ?_
            refine cw_region ?_
            -- r22.0 t131 := move  t5
            refine ol_pure rfl (op_move rfl) ?_
            -- r22.1 t4 := assign  t131
            refine ol_pure rfl (op_assign rfl) ?_
            refine ol_nil ?_
            refine pq_then ?_
            refine cw_ret ?_
            refine ret1 rfl rfl ?_
            -- ret5 h25f h47t o2 o4 h93f
            exact hS.sc_b rfl
        · skip
          refine wpOp_of_opk (i := 9) rfl ha (op_buildSlice (el := 3) (is := [0]) (xs := [.tmp 80]) (sz := 1) (cs := [.int .i64 (holdsI atoms.length rs (stepsI atoms.length rs).2)[kk]]) hS rfl rfl (fun w => by kernel_rfl) rfl (by decide)) ?_
          clear hS
          rintro _ w ⟨s81, rfl, hS⟩
          have hT := hT.back hS (by first | exact Le.refl _ | assumption) (fun x hx => by try simp only [List.take_succ_cons, List.take_zero, List.mem_cons, List.not_mem_nil, or_false] at hx; (rcases hx with rfl) <;> simp)
          refine ⟨fun _ _ => hT, ?_⟩
          refine al_at ?_ (ha.put (blt_lt rfl) _)
          refine al_step (i := 4) rfl (by kernel_rfl) rfl (op_append (j := 1) (m := (holdsI atoms.length rs (stepsI atoms.length rs).2).length) hS sl_29 el_3 rfl rfl rfl rfl rfl (by simp) (by decide) (hH.newsI hS.hold) (ones_i _) (by omega) (by unfold maxLen; omega)) ?_
          clear hS
          rintro _ w ⟨s74n, c_s74n, rfl, hS⟩; (try simp only [List.nil_append, List.cons_append, List.set] at hS)
          have hT := hT.back hS (by first | exact Le.refl _ | assumption) (fun x hx => by try simp only [List.take_succ_cons, List.take_zero, List.mem_cons, List.not_mem_nil, or_false] at hx; (rcases hx with rfl) <;> simp)
          refine ⟨fun _ _ => hT, ?_⟩
          refine al_step (i := 10) rfl (by kernel_rfl) rfl (op_append (j := 1) hS sl_29 el_3 rfl rfl rfl rfl rfl rfl (by decide) (hS.news (j := 0) rfl) (by simp [Value.oneCell']) (by omega) (by unfold maxLen; omega)) ?_
          clear hS
          rintro _ w ⟨s74nn, c_s74nn, rfl, hS⟩; (try simp only [List.nil_append, List.cons_append, List.set] at hS); replace hS := SS.drop [] hS; (try simp only [List.nil_append, List.cons_append] at hS)
          obtain ⟨GT, hlT, hS2, hT9⟩ := SS.give' ((holdsI atoms.length rs (stepsI atoms.length rs).2) ++ [(holdsI atoms.length rs (stepsI atoms.length rs).2)[kk]]) [] EInt.mono hS (by decide) (by exact (by have := Rows.of_map (xs := ((holdsI atoms.length rs (stepsI atoms.length rs).2) ++ [(holdsI atoms.length rs (stepsI atoms.length rs).2)[kk]])) (f := Value.int .i64) (E := EInt) (G := G68) (fun y hy => ⟨rfl, by rcases List.mem_append.1 hy with hy | hy; exact hH.bnd y hy; simp at hy; subst hy; exact hbH⟩); simpa using this)) (by simp)
          clear hS
          have hS := hS2
          clear hS2
          (try simp only [List.nil_append, List.cons_append] at hS)
          replace hL := hL.mono EStep.mono hlT
          replace hH := hH.mono EInt.mono hlT
          have hT := hT.back hS (by first | exact Le.refl _ | assumption) (fun x hx => by try simp only [List.take_succ_cons, List.take_zero, List.mem_cons, List.not_mem_nil, or_false] at hx; (rcases hx with rfl) <;> simp)
          refine ⟨fun _ _ => hT, ?_⟩
          -- r13.11 t83 := build [31] 0:t73 1:t82
          refine al_take (i := 11) rfl (by kernel_rfl) (by kernel_rfl) (by kernel_rfl) rfl (fun _ _ _ h => h) (op_build (is := [0, 1]) (xs := [.tmp 73, .tmp 82]) (v := .agg #[.slice oL (stepsI atoms.length rs).1.length cL, .slice s74nn (0 + (holdsI atoms.length rs (stepsI atoms.length rs).2).length + 1) c_s74nn]) rfl rfl (fun w => by kernel_rfl)) rfl ?_
          refine al_step (i := 12) rfl (by kernel_rfl) rfl (op_call_fr hS cf_14 rfl (judge_Check_c _ _ hS.hold _ _ atoms rs (h1.mono EAtom.mono hS.le) (h2.mono ERule.mono hS.le) hP _ _ (stepsI atoms.length rs).1 ((holdsI atoms.length rs (stepsI atoms.length rs).2) ++ [(holdsI atoms.length rs (stepsI atoms.length rs).2)[kk]]) hL hT9)) ?_
          clear hS
          rintro v84 w ⟨F84, G84, hR84, hF84, hf84, hl84, hS⟩
          obtain ⟨vm84, hv, _⟩ := hR84
          rw [strict2 hbt hlk] at hv
          simp only [Option.isSome_none] at hv
          subst hv
          replace hL := hL.mono EStep.mono hl84
          replace hH := hH.mono EInt.mono hl84
          have hx84 := hlT.trans hl84
          have hT := hT.back hS (by first | exact Le.refl _ | assumption) (fun x hx => by try simp only [List.take_succ_cons, List.take_zero, List.mem_cons, List.not_mem_nil, or_false] at hx; (rcases hx with rfl) <;> simp)
          refine ⟨fun _ _ => hT, ?_⟩
          -- r13.13 t71 := move  t84
          refine al_take (i := 13) rfl (by kernel_rfl) (by kernel_rfl) (by kernel_rfl) rfl (fun _ _ _ h => h) (op_move rfl) rfl ?_
          -- r13.14 t85 := extract [0] t71
          refine al_take (i := 14) rfl (by kernel_rfl) (by kernel_rfl) (by kernel_rfl) rfl (fun _ _ _ h => h) (op_extract (vs := [vm84, .bool false]) rfl rfl) rfl ?_
          -- r13.15 t86 := extract [1] t71
          refine al_take (i := 15) rfl (by kernel_rfl) (by kernel_rfl) (by kernel_rfl) rfl (fun _ _ _ h => h) (op_extract (vs := [vm84, .bool false]) rfl rfl) rfl ?_
          -- r13.16 t15 := assign  t85
          refine al_take (i := 16) rfl (by kernel_rfl) (by kernel_rfl) (by kernel_rfl) rfl (fun _ _ _ h => h) (op_assign rfl) rfl ?_
          -- r13.17 t16 := assign  t86
          refine al_take (i := 17) rfl (by kernel_rfl) (by kernel_rfl) (by kernel_rfl) rfl (fun _ _ _ h => h) (op_assign rfl) rfl ?_
          refine al_done (by kernel_rfl) ?_
          refine pq_then ?_
          refine cw_seq ?_
          refine cw_region ?_
          -- r14.0 t87 := move  t14
          refine ol_pure rfl (op_move rfl) ?_
          -- r14.1 t88 := move  t87
          refine ol_pure rfl (op_move rfl) ?_
          -- r14.2 t89 := move  t16 ?1=False
          refine ol_guard_pure rfl rfl rfl (op_move rfl) ?_
          -- r14.3 t90 := pick  t88 Ctrue t89
          refine ol_pure rfl (op_pick_f rfl rfl) ?_
          refine ol_nil ?_
          refine pq_then ?_
          refine cw_cond_f rfl ?_
          refine cw_skip ?_
          refine pq_then ?_
          refine cw_seq ?_
          refine cw_seq ?_
          refine cw_region ?_
          -- r16.0 t91 := move  t6
          refine ol_pure rfl (op_move rfl) ?_
          -- r16.1 t92 := call len t91
          refine ol_pure rfl (op_len sl_28 rfl rfl) ?_
          -- r16.2 t93 := gtr t92 C0
          refine ol_pure rfl (op_gtr rfl rfl) ?_
          refine ol_nil ?_
          refine pq_then ?_
          refine cw_cond rfl (fun h93 => ?_) (fun h93 => ?_)
          · skip
            try simp only [decide_eq_true_eq, decide_eq_false_iff_not, Bool.not_eq_true', Bool.not_eq_false', Bool.not_eq_eq_eq_not, Bool.not_true, Bool.not_false] at h93
            obtain ⟨jj, hjj⟩ := Int.eq_ofNat_of_zero_le (Int.emod_nonneg z (show (((stepsI atoms.length rs).1.length : Nat) : Int) ≠ 0 by omega))
            have hjl := Int.emod_lt_of_pos z (show (0 : Int) < ((stepsI atoms.length rs).1.length : Nat) by omega)
            have hlj : jj < (stepsI atoms.length rs).1.length := by omega
            obtain ⟨us, hus, hone, hcs⟩ := hL.cells EStep.one
            obtain ⟨hoL, _, _, ⟨va9, rfl, hva, hsb⟩, hcells⟩ := hL.el hlj
            obtain ⟨oV, cV, rfl, _, _⟩ := hva.elim
            refine cw_seq ?_
            refine cw_region ?_
            -- r17.0 t94 := move  t1
            refine ol_pure rfl (op_move rfl) ?_
            -- r17.1 t95 := convert [5, 3] t94
            refine ol_pure rfl (op_conv ⟨_, Try.underlying5⟩ Try.underlying3 rfl (wrap_u8 hz)) ?_
            -- r17.2 t96 := move  t6
            refine ol_pure rfl (op_move rfl) ?_
            -- r17.3 t97 := call len t96
            refine ol_pure rfl (op_len sl_28 rfl rfl) ?_
            -- r17.4 t98 := rem t95 t97
            refine ol_pure rfl (op_val (op_rem rfl rfl (by omega) (by omega)) (congrArg (Value.int .i64) hjj)) ?_
            -- r17.5 t17 := assign  t98
            refine ol_pure rfl (op_assign rfl) ?_
            refine ol_nil ?_
            refine pq_then ?_
            refine cw_seq ?_
            refine al_start' hS (hS.take 1) (by kernel_rfl) rfl (fun w hS hT => ?_)
            -- r18.0 t100 := load [25] t2
            refine al_load (i := 0) rfl (by kernel_rfl) (by kernel_rfl) (by kernel_rfl) rfl (fun _ _ _ h => h) (by exact op_loadN agg_25 rfl (by rfl) (fun w hw k u hk => (hw.bcell (i := 0) rfl).trans hk)) rfl hT ?_
            -- r18.2 t102 := move  t6
            refine al_take (i := 2) rfl (by kernel_rfl) (by kernel_rfl) (by kernel_rfl) rfl (fun _ _ _ h => h) (op_move rfl) rfl ?_
            -- r18.4 t104 := move  t6
            refine al_take (i := 4) rfl (by kernel_rfl) (by kernel_rfl) (by kernel_rfl) rfl (fun _ _ _ h => h) (op_move rfl) rfl ?_
            -- r18.5 t105 := move  t17
            refine al_take (i := 5) rfl (by kernel_rfl) (by kernel_rfl) (by kernel_rfl) rfl (fun _ _ _ h => h) (op_move rfl) rfl ?_
            -- r18.6 t106 := indexAddr [28] t104 t105
            refine al_take (i := 6) rfl (by kernel_rfl) (by kernel_rfl) (by kernel_rfl) rfl (fun _ _ _ h => h) (op_indexN sl_28 rfl rfl (by omega) hoL) rfl ?_
            -- r18.7 t107 := load [44] t106
            refine al_load (i := 7) rfl (by kernel_rfl) (by kernel_rfl) (by kernel_rfl) rfl (fun _ _ _ h => h) (by exact op_loadN agg_44 rfl (by rfl) (fun w hw k u hk => hw.gcell (hcells k u hk))) rfl hT ?_
            -- r18.10 t110 := move  t8
            refine al_take (i := 10) rfl (by kernel_rfl) (by kernel_rfl) (by kernel_rfl) rfl (fun _ _ _ h => h) (op_move rfl) rfl ?_
            refine al_two (i := 1) (j := 8) (by kernel_rfl) (fun a ha => ?_) (fun a ha => ?_)
            · skip
              refine wpOp_of_opk (i := 1) rfl ha (op_buildSlice (el := 44) (is := []) (xs := []) (sz := 2) (cs := []) hS rfl rfl (fun w => by kernel_rfl) rfl (by decide)) ?_
              clear hS
              rintro _ w ⟨s101, rfl, hS⟩
              have hT := hT.back hS (by first | exact Le.refl _ | assumption) (fun x hx => by try simp only [List.take_succ_cons, List.take_zero, List.mem_cons, List.not_mem_nil, or_false] at hx; (rcases hx with rfl) <;> simp)
              refine ⟨fun _ _ => hT, ?_⟩
              refine al_at ?_ (ha.put (blt_lt rfl) _)
              refine al_two (i := 3) (j := 8) (by kernel_rfl) (fun a ha => ?_) (fun a ha => ?_)
              · skip
                refine wpOp_of_opk (i := 3) rfl ha (op_append (j := 0) (m := (stepsI atoms.length rs).1.length) (news := us) hS sl_28 el_44 rfl rfl rfl rfl rfl hus.1 (by decide) (fun k u hu => ⟨(hcs k u hu).1, hS.hold.cell (hcs k u hu).2⟩) hone (by omega) (by unfold maxLen; omega)) ?_
                clear hS
                rintro _ w ⟨s101n, c_s101n, rfl, hS⟩; (try simp only [List.nil_append, List.cons_append, List.set] at hS)
                have hT := hT.back hS (by first | exact Le.refl _ | assumption) (fun x hx => by try simp only [List.take_succ_cons, List.take_zero, List.mem_cons, List.not_mem_nil, or_false] at hx; (rcases hx with rfl) <;> simp)
                refine ⟨fun _ _ => hT, ?_⟩
                refine al_at ?_ (ha.put (blt_lt rfl) _)
                refine al_step (i := 8) rfl (by kernel_rfl) rfl (op_buildSlice (el := 44) (is := [0]) (xs := [.tmp 107]) (sz := 2) (cs := [.int .i64 (stepsI atoms.length rs).1[jj].rule, .slice oV (stepsI atoms.length rs).1[jj].atoms.length cV]) hS rfl rfl (fun w => by kernel_rfl) rfl (by decide)) ?_
                clear hS
                rintro _ w ⟨s108, rfl, hS⟩
                have hT := hT.back hS (by first | exact Le.refl _ | assumption) (fun x hx => by try simp only [List.take_succ_cons, List.take_zero, List.mem_cons, List.not_mem_nil, or_false] at hx; (rcases hx with rfl) <;> simp)
                refine ⟨fun _ _ => hT, ?_⟩
                refine al_step (i := 9) rfl (by kernel_rfl) rfl (op_append (j := 1) hS sl_28 el_44 rfl rfl rfl rfl rfl rfl (by decide) (hS.news (j := 0) rfl) (by simp [Value.oneCell']) (by omega) (by unfold maxLen; omega)) ?_
                clear hS
                rintro _ w ⟨s101nn, c_s101nn, rfl, hS⟩; (try simp only [List.nil_append, List.cons_append, List.set] at hS); replace hS := SS.drop [] hS; (try simp only [List.nil_append, List.cons_append] at hS)
                have hL8 := hL
                obtain ⟨G9, hl9, hS2, hL9b⟩ := SS.give' ((stepsI atoms.length rs).1 ++ [(stepsI atoms.length rs).1[jj]]) [] EStep.mono hS (by decide) (by exact (hus.snoc (x := (stepsI atoms.length rs).1[jj]) (cs := [.int .i64 (stepsI atoms.length rs).1[jj].rule, .slice oV (stepsI atoms.length rs).1[jj].atoms.length cV]) rfl ⟨_, rfl, hva, hsb⟩)) (by simp)
                clear hS
                have hS := hS2
                clear hS2
                (try simp only [List.nil_append, List.cons_append] at hS)
                replace hL := hL.mono EStep.mono hl9
                replace hH := hH.mono EInt.mono hl9
                have hT := hT.back hS (by first | exact Le.refl _ | assumption) (fun x hx => by try simp only [List.take_succ_cons, List.take_zero, List.mem_cons, List.not_mem_nil, or_false] at hx; (rcases hx with rfl) <;> simp)
                refine ⟨fun _ _ => hT, ?_⟩
                -- r18.11 t111 := build [31] 0:t109 1:t110
                refine al_take (i := 11) rfl (by kernel_rfl) (by kernel_rfl) (by kernel_rfl) rfl (fun _ _ _ h => h) (op_build (is := [0, 1]) (xs := [.tmp 109, .tmp 110]) (v := .agg #[.slice s101nn (0 + (stepsI atoms.length rs).1.length + 1) c_s101nn, .slice oH (holdsI atoms.length rs (stepsI atoms.length rs).2).length cH]) rfl rfl (fun w => by kernel_rfl)) rfl ?_
                refine al_step (i := 12) rfl (by kernel_rfl) rfl (op_call_fr hS cf_14 rfl (judge_Check_c _ _ hS.hold _ _ atoms rs (h1.mono EAtom.mono hS.le) (h2.mono ERule.mono hS.le) hP _ _ ((stepsI atoms.length rs).1 ++ [(stepsI atoms.length rs).1[jj]]) (holdsI atoms.length rs (stepsI atoms.length rs).2) hL9b hH)) ?_
                clear hS
                rintro v112 w ⟨F112, G112, hR112, hF112, hf112, hl112, hS⟩
                obtain ⟨vm112, hv, _⟩ := hR112
                rw [strict3 hbt hlj] at hv
                simp only [Option.isSome_none] at hv
                subst hv
                replace hL := hL.mono EStep.mono hl112
                replace hH := hH.mono EInt.mono hl112
                have hx112 := hl9.trans hl112
                have hT := hT.back hS (by first | exact Le.refl _ | assumption) (fun x hx => by try simp only [List.take_succ_cons, List.take_zero, List.mem_cons, List.not_mem_nil, or_false] at hx; (rcases hx with rfl) <;> simp)
                refine ⟨fun _ _ => hT, ?_⟩
                -- r18.13 t99 := move  t112
                refine al_take (i := 13) rfl (by kernel_rfl) (by kernel_rfl) (by kernel_rfl) rfl (fun _ _ _ h => h) (op_move rfl) rfl ?_
                -- r18.14 t113 := extract [0] t99
                refine al_take (i := 14) rfl (by kernel_rfl) (by kernel_rfl) (by kernel_rfl) rfl (fun _ _ _ h => h) (op_extract (vs := [vm112, .bool false]) rfl rfl) rfl ?_
                -- r18.15 t114 := extract [1] t99
                refine al_take (i := 15) rfl (by kernel_rfl) (by kernel_rfl) (by kernel_rfl) rfl (fun _ _ _ h => h) (op_extract (vs := [vm112, .bool false]) rfl rfl) rfl ?_
                -- r18.16 t18 := assign  t113
                refine al_take (i := 16) rfl (by kernel_rfl) (by kernel_rfl) (by kernel_rfl) rfl (fun _ _ _ h => h) (op_assign rfl) rfl ?_
                -- r18.17 t19 := assign  t114
                refine al_take (i := 17) rfl (by kernel_rfl) (by kernel_rfl) (by kernel_rfl) rfl (fun _ _ _ h => h) (op_assign rfl) rfl ?_
                refine al_done (by kernel_rfl) ?_
                refine pq_then ?_
                refine cw_seq ?_
                refine al_start' hS (hS.take 1) (by kernel_rfl) rfl (fun w hS hT => ?_)
                -- r19.0 t116 := load [25] t2
                refine al_load (i := 0) rfl (by kernel_rfl) (by kernel_rfl) (by kernel_rfl) rfl (fun _ _ _ h => h) (by exact op_loadN agg_25 rfl (by rfl) (fun w hw k u hk => (hw.bcell (i := 0) rfl).trans hk)) rfl hT ?_
                -- r19.1 t117 := move  t6
                refine al_take (i := 1) rfl (by kernel_rfl) (by kernel_rfl) (by kernel_rfl) rfl (fun _ _ _ h => h) (op_move rfl) rfl ?_
                -- r19.2 t118 := move  t6
                refine al_take (i := 2) rfl (by kernel_rfl) (by kernel_rfl) (by kernel_rfl) rfl (fun _ _ _ h => h) (op_move rfl) rfl ?_
                -- r19.3 t119 := call len t118
                refine al_take (i := 3) rfl (by kernel_rfl) (by kernel_rfl) (by kernel_rfl) rfl (fun _ _ _ h => h) (op_len sl_28 rfl rfl) rfl ?_
                -- r19.4 t120 := sub t119 C1
                refine al_take (i := 4) rfl (by kernel_rfl) (by kernel_rfl) (by kernel_rfl) rfl (fun _ _ _ h => h) (op_val (op_sub rfl rfl (by omega) (by omega)) (v' := .int .i64 (((stepsI atoms.length rs).1.length - 1 : Nat) : Int)) (congrArg (Value.int .i64) (by omega))) rfl ?_
                -- r19.5 t121 := slice t117 [:t120:]
                have hcut3 := hL.cut (lo := 0) (hi := (stepsI atoms.length rs).1.length - 1) (Nat.zero_le _) (by omega)
                obtain ⟨oQ, cQ, hQ, _, _⟩ := hcut3.elimN (n := (stepsI atoms.length rs).1.length - 1) (by simp)
                rw [hQ, List.drop_zero] at hcut3
                refine al_take (i := 5) rfl (by kernel_rfl) (by kernel_rfl) (by kernel_rfl) rfl (fun _ _ _ h => h) (op_val (op_slice_h (h := (stepsI atoms.length rs).1.length - 1) sl_28 rfl rfl (by omega)) hQ) rfl ?_
                -- r19.6 t122 := move  t8
                refine al_take (i := 6) rfl (by kernel_rfl) (by kernel_rfl) (by kernel_rfl) rfl (fun _ _ _ h => h) (op_move rfl) rfl ?_
                -- r19.7 t123 := build [31] 0:t121 1:t122
                refine al_take (i := 7) rfl (by kernel_rfl) (by kernel_rfl) (by kernel_rfl) rfl (fun _ _ _ h => h) (op_build (is := [0, 1]) (xs := [.tmp 121, .tmp 122]) (v := .agg #[.slice oQ ((stepsI atoms.length rs).1.length - 1) cQ, .slice oH (holdsI atoms.length rs (stepsI atoms.length rs).2).length cH]) rfl rfl (fun w => by kernel_rfl)) rfl ?_
                refine al_step (i := 8) rfl (by kernel_rfl) rfl (op_call_fr hS cf_14 rfl (judge_Check_c _ _ hS.hold _ _ atoms rs (h1.mono EAtom.mono hS.le) (h2.mono ERule.mono hS.le) hP _ _ ((stepsI atoms.length rs).1.take ((stepsI atoms.length rs).1.length - 1)) (holdsI atoms.length rs (stepsI atoms.length rs).2) hcut3 hH)) ?_
                clear hS
                rintro v124 w ⟨F124, G124, hR124, hF124, hf124, hl124, hS⟩
                obtain ⟨vm124, hv, _⟩ := hR124
                rw [strict4 hbt (by omega)] at hv
                simp only [Option.isSome_none] at hv
                subst hv
                replace hL := hL.mono EStep.mono hl124
                replace hH := hH.mono EInt.mono hl124
                refine ⟨no_need (by kernel_rfl), ?_⟩
                -- r19.9 t115 := move  t124
                refine al_take (i := 9) rfl (by kernel_rfl) (by kernel_rfl) (by kernel_rfl) rfl (fun _ _ _ h => h) (op_move rfl) rfl ?_
                -- r19.10 t125 := extract [0] t115
                refine al_take (i := 10) rfl (by kernel_rfl) (by kernel_rfl) (by kernel_rfl) rfl (fun _ _ _ h => h) (op_extract (vs := [vm124, .bool false]) rfl rfl) rfl ?_
                -- r19.11 t126 := extract [1] t115
                refine al_take (i := 11) rfl (by kernel_rfl) (by kernel_rfl) (by kernel_rfl) rfl (fun _ _ _ h => h) (op_extract (vs := [vm124, .bool false]) rfl rfl) rfl ?_
                -- r19.12 t20 := assign  t125
                refine al_take (i := 12) rfl (by kernel_rfl) (by kernel_rfl) (by kernel_rfl) rfl (fun _ _ _ h => h) (op_assign rfl) rfl ?_
                -- r19.13 t21 := assign  t126
                refine al_take (i := 13) rfl (by kernel_rfl) (by kernel_rfl) (by kernel_rfl) rfl (fun _ _ _ h => h) (op_assign rfl) rfl ?_
                refine al_done (by kernel_rfl) ?_
                refine pq_then ?_
                refine cw_seq ?_
                refine cw_region ?_
                -- r20.0 t127 := move  t19
                refine ol_pure rfl (op_move rfl) ?_
                -- r20.1 t128 := move  t127
                refine ol_pure rfl (op_move rfl) ?_
                -- r20.2 t129 := move  t21 ?1=False
                refine ol_guard_pure rfl rfl rfl (op_move rfl) ?_
                -- r20.3 t130 := pick  t128 Ctrue t129
                refine ol_pure rfl (op_pick_f rfl rfl) ?_
                refine ol_nil ?_
                refine pq_then ?_
                refine cw_cond_f rfl ?_
                refine cw_skip ?_
                refine pq_then ?_
                refine cw_seq ?_
                refine cw_region ?_
                -- r22.0 t131 := move  t5
                refine ol_pure rfl (op_move rfl) ?_
                -- r22.1 t4 := assign  t131
                refine ol_pure rfl (op_assign rfl) ?_
                refine ol_nil ?_
                refine pq_then ?_
                refine cw_ret ?_
                refine ret1 rfl rfl ?_
                -- ret5 h25f h47t o2 o9 h93t o1 o3
                exact hS.sc_b rfl
              · skip
                refine wpOp_of_opk (i := 8) rfl ha (op_buildSlice (el := 44) (is := [0]) (xs := [.tmp 107]) (sz := 2) (cs := [.int .i64 (stepsI atoms.length rs).1[jj].rule, .slice oV (stepsI atoms.length rs).1[jj].atoms.length cV]) hS rfl rfl (fun w => by kernel_rfl) rfl (by decide)) ?_
                clear hS
                rintro _ w ⟨s108, rfl, hS⟩
                have hT := hT.back hS (by first | exact Le.refl _ | assumption) (fun x hx => by try simp only [List.take_succ_cons, List.take_zero, List.mem_cons, List.not_mem_nil, or_false] at hx; (rcases hx with rfl) <;> simp)
                refine ⟨fun _ _ => hT, ?_⟩
                refine al_at ?_ (ha.put (blt_lt rfl) _)
                refine al_step (i := 3) rfl (by kernel_rfl) rfl (op_append (j := 1) (m := (stepsI atoms.length rs).1.length) (news := us) hS sl_28 el_44 rfl rfl rfl rfl rfl hus.1 (by decide) (fun k u hu => ⟨(hcs k u hu).1, hS.hold.cell (hcs k u hu).2⟩) hone (by omega) (by unfold maxLen; omega)) ?_
                clear hS
                rintro _ w ⟨s101n, c_s101n, rfl, hS⟩; (try simp only [List.nil_append, List.cons_append, List.set] at hS)
                have hT := hT.back hS (by first | exact Le.refl _ | assumption) (fun x hx => by try simp only [List.take_succ_cons, List.take_zero, List.mem_cons, List.not_mem_nil, or_false] at hx; (rcases hx with rfl) <;> simp)
                refine ⟨fun _ _ => hT, ?_⟩
                refine al_step (i := 9) rfl (by kernel_rfl) rfl (op_append (j := 1) hS sl_28 el_44 rfl rfl rfl rfl rfl rfl (by decide) (hS.news (j := 0) rfl) (by simp [Value.oneCell']) (by omega) (by unfold maxLen; omega)) ?_
                clear hS
                rintro _ w ⟨s101nn, c_s101nn, rfl, hS⟩; (try simp only [List.nil_append, List.cons_append, List.set] at hS); replace hS := SS.drop [] hS; (try simp only [List.nil_append, List.cons_append] at hS)
                have hL8 := hL
                obtain ⟨G9, hl9, hS2, hL9b⟩ := SS.give' ((stepsI atoms.length rs).1 ++ [(stepsI atoms.length rs).1[jj]]) [] EStep.mono hS (by decide) (by exact (hus.snoc (x := (stepsI atoms.length rs).1[jj]) (cs := [.int .i64 (stepsI atoms.length rs).1[jj].rule, .slice oV (stepsI atoms.length rs).1[jj].atoms.length cV]) rfl ⟨_, rfl, hva, hsb⟩)) (by simp)
                clear hS
                have hS := hS2
                clear hS2
                (try simp only [List.nil_append, List.cons_append] at hS)
                replace hL := hL.mono EStep.mono hl9
                replace hH := hH.mono EInt.mono hl9
                have hT := hT.back hS (by first | exact Le.refl _ | assumption) (fun x hx => by try simp only [List.take_succ_cons, List.take_zero, List.mem_cons, List.not_mem_nil, or_false] at hx; (rcases hx with rfl) <;> simp)
                refine ⟨fun _ _ => hT, ?_⟩
                -- r18.11 t111 := build [31] 0:t109 1:t110
                refine al_take (i := 11) rfl (by kernel_rfl) (by kernel_rfl) (by kernel_rfl) rfl (fun _ _ _ h => h) (op_build (is := [0, 1]) (xs := [.tmp 109, .tmp 110]) (v := .agg #[.slice s101nn (0 + (stepsI atoms.length rs).1.length + 1) c_s101nn, .slice oH (holdsI atoms.length rs (stepsI atoms.length rs).2).length cH]) rfl rfl (fun w => by kernel_rfl)) rfl ?_
                refine al_step (i := 12) rfl (by kernel_rfl) rfl (op_call_fr hS cf_14 rfl (judge_Check_c _ _ hS.hold _ _ atoms rs (h1.mono EAtom.mono hS.le) (h2.mono ERule.mono hS.le) hP _ _ ((stepsI atoms.length rs).1 ++ [(stepsI atoms.length rs).1[jj]]) (holdsI atoms.length rs (stepsI atoms.length rs).2) hL9b hH)) ?_
                clear hS
                rintro v112 w ⟨F112, G112, hR112, hF112, hf112, hl112, hS⟩
                obtain ⟨vm112, hv, _⟩ := hR112
                rw [strict3 hbt hlj] at hv
                simp only [Option.isSome_none] at hv
                subst hv
                replace hL := hL.mono EStep.mono hl112
                replace hH := hH.mono EInt.mono hl112
                have hx112 := hl9.trans hl112
                have hT := hT.back hS (by first | exact Le.refl _ | assumption) (fun x hx => by try simp only [List.take_succ_cons, List.take_zero, List.mem_cons, List.not_mem_nil, or_false] at hx; (rcases hx with rfl) <;> simp)
                refine ⟨fun _ _ => hT, ?_⟩
                -- r18.13 t99 := move  t112
                refine al_take (i := 13) rfl (by kernel_rfl) (by kernel_rfl) (by kernel_rfl) rfl (fun _ _ _ h => h) (op_move rfl) rfl ?_
                -- r18.14 t113 := extract [0] t99
                refine al_take (i := 14) rfl (by kernel_rfl) (by kernel_rfl) (by kernel_rfl) rfl (fun _ _ _ h => h) (op_extract (vs := [vm112, .bool false]) rfl rfl) rfl ?_
                -- r18.15 t114 := extract [1] t99
                refine al_take (i := 15) rfl (by kernel_rfl) (by kernel_rfl) (by kernel_rfl) rfl (fun _ _ _ h => h) (op_extract (vs := [vm112, .bool false]) rfl rfl) rfl ?_
                -- r18.16 t18 := assign  t113
                refine al_take (i := 16) rfl (by kernel_rfl) (by kernel_rfl) (by kernel_rfl) rfl (fun _ _ _ h => h) (op_assign rfl) rfl ?_
                -- r18.17 t19 := assign  t114
                refine al_take (i := 17) rfl (by kernel_rfl) (by kernel_rfl) (by kernel_rfl) rfl (fun _ _ _ h => h) (op_assign rfl) rfl ?_
                refine al_done (by kernel_rfl) ?_
                refine pq_then ?_
                refine cw_seq ?_
                refine al_start' hS (hS.take 1) (by kernel_rfl) rfl (fun w hS hT => ?_)
                -- r19.0 t116 := load [25] t2
                refine al_load (i := 0) rfl (by kernel_rfl) (by kernel_rfl) (by kernel_rfl) rfl (fun _ _ _ h => h) (by exact op_loadN agg_25 rfl (by rfl) (fun w hw k u hk => (hw.bcell (i := 0) rfl).trans hk)) rfl hT ?_
                -- r19.1 t117 := move  t6
                refine al_take (i := 1) rfl (by kernel_rfl) (by kernel_rfl) (by kernel_rfl) rfl (fun _ _ _ h => h) (op_move rfl) rfl ?_
                -- r19.2 t118 := move  t6
                refine al_take (i := 2) rfl (by kernel_rfl) (by kernel_rfl) (by kernel_rfl) rfl (fun _ _ _ h => h) (op_move rfl) rfl ?_
                -- r19.3 t119 := call len t118
                refine al_take (i := 3) rfl (by kernel_rfl) (by kernel_rfl) (by kernel_rfl) rfl (fun _ _ _ h => h) (op_len sl_28 rfl rfl) rfl ?_
                -- r19.4 t120 := sub t119 C1
                refine al_take (i := 4) rfl (by kernel_rfl) (by kernel_rfl) (by kernel_rfl) rfl (fun _ _ _ h => h) (op_val (op_sub rfl rfl (by omega) (by omega)) (v' := .int .i64 (((stepsI atoms.length rs).1.length - 1 : Nat) : Int)) (congrArg (Value.int .i64) (by omega))) rfl ?_
                -- r19.5 t121 := slice t117 [:t120:]
                have hcut3 := hL.cut (lo := 0) (hi := (stepsI atoms.length rs).1.length - 1) (Nat.zero_le _) (by omega)
                obtain ⟨oQ, cQ, hQ, _, _⟩ := hcut3.elimN (n := (stepsI atoms.length rs).1.length - 1) (by simp)
                rw [hQ, List.drop_zero] at hcut3
                refine al_take (i := 5) rfl (by kernel_rfl) (by kernel_rfl) (by kernel_rfl) rfl (fun _ _ _ h => h) (op_val (op_slice_h (h := (stepsI atoms.length rs).1.length - 1) sl_28 rfl rfl (by omega)) hQ) rfl ?_
                -- r19.6 t122 := move  t8
                refine al_take (i := 6) rfl (by kernel_rfl) (by kernel_rfl) (by kernel_rfl) rfl (fun _ _ _ h => h) (op_move rfl) rfl ?_
                -- r19.7 t123 := build [31] 0:t121 1:t122
                refine al_take (i := 7) rfl (by kernel_rfl) (by kernel_rfl) (by kernel_rfl) rfl (fun _ _ _ h => h) (op_build (is := [0, 1]) (xs := [.tmp 121, .tmp 122]) (v := .agg #[.slice oQ ((stepsI atoms.length rs).1.length - 1) cQ, .slice oH (holdsI atoms.length rs (stepsI atoms.length rs).2).length cH]) rfl rfl (fun w => by kernel_rfl)) rfl ?_
                refine al_step (i := 8) rfl (by kernel_rfl) rfl (op_call_fr hS cf_14 rfl (judge_Check_c _ _ hS.hold _ _ atoms rs (h1.mono EAtom.mono hS.le) (h2.mono ERule.mono hS.le) hP _ _ ((stepsI atoms.length rs).1.take ((stepsI atoms.length rs).1.length - 1)) (holdsI atoms.length rs (stepsI atoms.length rs).2) hcut3 hH)) ?_
                clear hS
                rintro v124 w ⟨F124, G124, hR124, hF124, hf124, hl124, hS⟩
                obtain ⟨vm124, hv, _⟩ := hR124
                rw [strict4 hbt (by omega)] at hv
                simp only [Option.isSome_none] at hv
                subst hv
                replace hL := hL.mono EStep.mono hl124
                replace hH := hH.mono EInt.mono hl124
                refine ⟨no_need (by kernel_rfl), ?_⟩
                -- r19.9 t115 := move  t124
                refine al_take (i := 9) rfl (by kernel_rfl) (by kernel_rfl) (by kernel_rfl) rfl (fun _ _ _ h => h) (op_move rfl) rfl ?_
                -- r19.10 t125 := extract [0] t115
                refine al_take (i := 10) rfl (by kernel_rfl) (by kernel_rfl) (by kernel_rfl) rfl (fun _ _ _ h => h) (op_extract (vs := [vm124, .bool false]) rfl rfl) rfl ?_
                -- r19.11 t126 := extract [1] t115
                refine al_take (i := 11) rfl (by kernel_rfl) (by kernel_rfl) (by kernel_rfl) rfl (fun _ _ _ h => h) (op_extract (vs := [vm124, .bool false]) rfl rfl) rfl ?_
                -- r19.12 t20 := assign  t125
                refine al_take (i := 12) rfl (by kernel_rfl) (by kernel_rfl) (by kernel_rfl) rfl (fun _ _ _ h => h) (op_assign rfl) rfl ?_
                -- r19.13 t21 := assign  t126
                refine al_take (i := 13) rfl (by kernel_rfl) (by kernel_rfl) (by kernel_rfl) rfl (fun _ _ _ h => h) (op_assign rfl) rfl ?_
                refine al_done (by kernel_rfl) ?_
                refine pq_then ?_
                refine cw_seq ?_
                refine cw_region ?_
                -- r20.0 t127 := move  t19
                refine ol_pure rfl (op_move rfl) ?_
                -- r20.1 t128 := move  t127
                refine ol_pure rfl (op_move rfl) ?_
                -- r20.2 t129 := move  t21 ?1=False
                refine ol_guard_pure rfl rfl rfl (op_move rfl) ?_
                -- r20.3 t130 := pick  t128 Ctrue t129
                refine ol_pure rfl (op_pick_f rfl rfl) ?_
                refine ol_nil ?_
                refine pq_then ?_
                refine cw_cond_f rfl ?_
                refine cw_skip ?_
                refine pq_then ?_
                refine cw_seq ?_
                refine cw_region ?_
                -- r22.0 t131 := move  t5
                refine ol_pure rfl (op_move rfl) ?_
                -- r22.1 t4 := assign  t131
                refine ol_pure rfl (op_assign rfl) ?_
                refine ol_nil ?_
                refine pq_then ?_
                refine cw_ret ?_
                refine ret1 rfl rfl ?_
                -- ret5 h25f h47t o2 o9 h93t o1 o8
                exact hS.sc_b rfl
            · skip
              refine wpOp_of_opk (i := 8) rfl ha (op_buildSlice (el := 44) (is := [0]) (xs := [.tmp 107]) (sz := 2) (cs := [.int .i64 (stepsI atoms.length rs).1[jj].rule, .slice oV (stepsI atoms.length rs).1[jj].atoms.length cV]) hS rfl rfl (fun w => by kernel_rfl) rfl (by decide)) ?_
              clear hS
              rintro _ w ⟨s108, rfl, hS⟩
              have hT := hT.back hS (by first | exact Le.refl _ | assumption) (fun x hx => by try simp only [List.take_succ_cons, List.take_zero, List.mem_cons, List.not_mem_nil, or_false] at hx; (rcases hx with rfl) <;> simp)
              refine ⟨fun _ _ => hT, ?_⟩
              refine al_at ?_ (ha.put (blt_lt rfl) _)
              refine al_step (i := 1) rfl (by kernel_rfl) rfl (op_buildSlice (el := 44) (is := []) (xs := []) (sz := 2) (cs := []) hS rfl rfl (fun w => by kernel_rfl) rfl (by decide)) ?_
              clear hS
              rintro _ w ⟨s101, rfl, hS⟩
              have hT := hT.back hS (by first | exact Le.refl _ | assumption) (fun x hx => by try simp only [List.take_succ_cons, List.take_zero, List.mem_cons, List.not_mem_nil, or_false] at hx; (rcases hx with rfl) <;> simp)
              refine ⟨fun _ _ => hT, ?_⟩
              refine al_step (i := 3) rfl (by kernel_rfl) rfl (op_append (j := 0) (m := (stepsI atoms.length rs).1.length) (news := us) hS sl_28 el_44 rfl rfl rfl rfl rfl hus.1 (by decide) (fun k u hu => ⟨(hcs k u hu).1, hS.hold.cell (hcs k u hu).2⟩) hone (by omega) (by unfold maxLen; omega)) ?_
              clear hS
              rintro _ w ⟨s101n, c_s101n, rfl, hS⟩; (try simp only [List.nil_append, List.cons_append, List.set] at hS)
              have hT := hT.back hS (by first | exact Le.refl _ | assumption) (fun x hx => by try simp only [List.take_succ_cons, List.take_zero, List.mem_cons, List.not_mem_nil, or_false] at hx; (rcases hx with rfl) <;> simp)
              refine ⟨fun _ _ => hT, ?_⟩
              refine al_step (i := 9) rfl (by kernel_rfl) rfl (op_append (j := 0) hS sl_28 el_44 rfl rfl rfl rfl rfl rfl (by decide) (hS.news (j := 1) rfl) (by simp [Value.oneCell']) (by omega) (by unfold maxLen; omega)) ?_
              clear hS
              rintro _ w ⟨s101nn, c_s101nn, rfl, hS⟩; (try simp only [List.nil_append, List.cons_append, List.set] at hS); replace hS := SS.drop [_] hS; (try simp only [List.nil_append, List.cons_append] at hS)
              have hL8 := hL
              obtain ⟨G9, hl9, hS2, hL9b⟩ := SS.give' ((stepsI atoms.length rs).1 ++ [(stepsI atoms.length rs).1[jj]]) [] EStep.mono hS (by decide) (by exact (hus.snoc (x := (stepsI atoms.length rs).1[jj]) (cs := [.int .i64 (stepsI atoms.length rs).1[jj].rule, .slice oV (stepsI atoms.length rs).1[jj].atoms.length cV]) rfl ⟨_, rfl, hva, hsb⟩)) (by simp)
              clear hS
              have hS := hS2
              clear hS2
              (try simp only [List.nil_append, List.cons_append] at hS)
              replace hL := hL.mono EStep.mono hl9
              replace hH := hH.mono EInt.mono hl9
              have hT := hT.back hS (by first | exact Le.refl _ | assumption) (fun x hx => by try simp only [List.take_succ_cons, List.take_zero, List.mem_cons, List.not_mem_nil, or_false] at hx; (rcases hx with rfl) <;> simp)
              refine ⟨fun _ _ => hT, ?_⟩
              -- r18.11 t111 := build [31] 0:t109 1:t110
              refine al_take (i := 11) rfl (by kernel_rfl) (by kernel_rfl) (by kernel_rfl) rfl (fun _ _ _ h => h) (op_build (is := [0, 1]) (xs := [.tmp 109, .tmp 110]) (v := .agg #[.slice s101nn (0 + (stepsI atoms.length rs).1.length + 1) c_s101nn, .slice oH (holdsI atoms.length rs (stepsI atoms.length rs).2).length cH]) rfl rfl (fun w => by kernel_rfl)) rfl ?_
              refine al_step (i := 12) rfl (by kernel_rfl) rfl (op_call_fr hS cf_14 rfl (judge_Check_c _ _ hS.hold _ _ atoms rs (h1.mono EAtom.mono hS.le) (h2.mono ERule.mono hS.le) hP _ _ ((stepsI atoms.length rs).1 ++ [(stepsI atoms.length rs).1[jj]]) (holdsI atoms.length rs (stepsI atoms.length rs).2) hL9b hH)) ?_
              clear hS
              rintro v112 w ⟨F112, G112, hR112, hF112, hf112, hl112, hS⟩
              obtain ⟨vm112, hv, _⟩ := hR112
              rw [strict3 hbt hlj] at hv
              simp only [Option.isSome_none] at hv
              subst hv
              replace hL := hL.mono EStep.mono hl112
              replace hH := hH.mono EInt.mono hl112
              have hx112 := hl9.trans hl112
              have hT := hT.back hS (by first | exact Le.refl _ | assumption) (fun x hx => by try simp only [List.take_succ_cons, List.take_zero, List.mem_cons, List.not_mem_nil, or_false] at hx; (rcases hx with rfl) <;> simp)
              refine ⟨fun _ _ => hT, ?_⟩
              -- r18.13 t99 := move  t112
              refine al_take (i := 13) rfl (by kernel_rfl) (by kernel_rfl) (by kernel_rfl) rfl (fun _ _ _ h => h) (op_move rfl) rfl ?_
              -- r18.14 t113 := extract [0] t99
              refine al_take (i := 14) rfl (by kernel_rfl) (by kernel_rfl) (by kernel_rfl) rfl (fun _ _ _ h => h) (op_extract (vs := [vm112, .bool false]) rfl rfl) rfl ?_
              -- r18.15 t114 := extract [1] t99
              refine al_take (i := 15) rfl (by kernel_rfl) (by kernel_rfl) (by kernel_rfl) rfl (fun _ _ _ h => h) (op_extract (vs := [vm112, .bool false]) rfl rfl) rfl ?_
              -- r18.16 t18 := assign  t113
              refine al_take (i := 16) rfl (by kernel_rfl) (by kernel_rfl) (by kernel_rfl) rfl (fun _ _ _ h => h) (op_assign rfl) rfl ?_
              -- r18.17 t19 := assign  t114
              refine al_take (i := 17) rfl (by kernel_rfl) (by kernel_rfl) (by kernel_rfl) rfl (fun _ _ _ h => h) (op_assign rfl) rfl ?_
              refine al_done (by kernel_rfl) ?_
              refine pq_then ?_
              refine cw_seq ?_
              refine al_start' hS (hS.take 1) (by kernel_rfl) rfl (fun w hS hT => ?_)
              -- r19.0 t116 := load [25] t2
              refine al_load (i := 0) rfl (by kernel_rfl) (by kernel_rfl) (by kernel_rfl) rfl (fun _ _ _ h => h) (by exact op_loadN agg_25 rfl (by rfl) (fun w hw k u hk => (hw.bcell (i := 0) rfl).trans hk)) rfl hT ?_
              -- r19.1 t117 := move  t6
              refine al_take (i := 1) rfl (by kernel_rfl) (by kernel_rfl) (by kernel_rfl) rfl (fun _ _ _ h => h) (op_move rfl) rfl ?_
              -- r19.2 t118 := move  t6
              refine al_take (i := 2) rfl (by kernel_rfl) (by kernel_rfl) (by kernel_rfl) rfl (fun _ _ _ h => h) (op_move rfl) rfl ?_
              -- r19.3 t119 := call len t118
              refine al_take (i := 3) rfl (by kernel_rfl) (by kernel_rfl) (by kernel_rfl) rfl (fun _ _ _ h => h) (op_len sl_28 rfl rfl) rfl ?_
              -- r19.4 t120 := sub t119 C1
              refine al_take (i := 4) rfl (by kernel_rfl) (by kernel_rfl) (by kernel_rfl) rfl (fun _ _ _ h => h) (op_val (op_sub rfl rfl (by omega) (by omega)) (v' := .int .i64 (((stepsI atoms.length rs).1.length - 1 : Nat) : Int)) (congrArg (Value.int .i64) (by omega))) rfl ?_
              -- r19.5 t121 := slice t117 [:t120:]
              have hcut3 := hL.cut (lo := 0) (hi := (stepsI atoms.length rs).1.length - 1) (Nat.zero_le _) (by omega)
              obtain ⟨oQ, cQ, hQ, _, _⟩ := hcut3.elimN (n := (stepsI atoms.length rs).1.length - 1) (by simp)
              rw [hQ, List.drop_zero] at hcut3
              refine al_take (i := 5) rfl (by kernel_rfl) (by kernel_rfl) (by kernel_rfl) rfl (fun _ _ _ h => h) (op_val (op_slice_h (h := (stepsI atoms.length rs).1.length - 1) sl_28 rfl rfl (by omega)) hQ) rfl ?_
              -- r19.6 t122 := move  t8
              refine al_take (i := 6) rfl (by kernel_rfl) (by kernel_rfl) (by kernel_rfl) rfl (fun _ _ _ h => h) (op_move rfl) rfl ?_
              -- r19.7 t123 := build [31] 0:t121 1:t122
              refine al_take (i := 7) rfl (by kernel_rfl) (by kernel_rfl) (by kernel_rfl) rfl (fun _ _ _ h => h) (op_build (is := [0, 1]) (xs := [.tmp 121, .tmp 122]) (v := .agg #[.slice oQ ((stepsI atoms.length rs).1.length - 1) cQ, .slice oH (holdsI atoms.length rs (stepsI atoms.length rs).2).length cH]) rfl rfl (fun w => by kernel_rfl)) rfl ?_
              refine al_step (i := 8) rfl (by kernel_rfl) rfl (op_call_fr hS cf_14 rfl (judge_Check_c _ _ hS.hold _ _ atoms rs (h1.mono EAtom.mono hS.le) (h2.mono ERule.mono hS.le) hP _ _ ((stepsI atoms.length rs).1.take ((stepsI atoms.length rs).1.length - 1)) (holdsI atoms.length rs (stepsI atoms.length rs).2) hcut3 hH)) ?_
              clear hS
              rintro v124 w ⟨F124, G124, hR124, hF124, hf124, hl124, hS⟩
              obtain ⟨vm124, hv, _⟩ := hR124
              rw [strict4 hbt (by omega)] at hv
              simp only [Option.isSome_none] at hv
              subst hv
              replace hL := hL.mono EStep.mono hl124
              replace hH := hH.mono EInt.mono hl124
              refine ⟨no_need (by kernel_rfl), ?_⟩
              -- r19.9 t115 := move  t124
              refine al_take (i := 9) rfl (by kernel_rfl) (by kernel_rfl) (by kernel_rfl) rfl (fun _ _ _ h => h) (op_move rfl) rfl ?_
              -- r19.10 t125 := extract [0] t115
              refine al_take (i := 10) rfl (by kernel_rfl) (by kernel_rfl) (by kernel_rfl) rfl (fun _ _ _ h => h) (op_extract (vs := [vm124, .bool false]) rfl rfl) rfl ?_
              -- r19.11 t126 := extract [1] t115
              refine al_take (i := 11) rfl (by kernel_rfl) (by kernel_rfl) (by kernel_rfl) rfl (fun _ _ _ h => h) (op_extract (vs := [vm124, .bool false]) rfl rfl) rfl ?_
              -- r19.12 t20 := assign  t125
              refine al_take (i := 12) rfl (by kernel_rfl) (by kernel_rfl) (by kernel_rfl) rfl (fun _ _ _ h => h) (op_assign rfl) rfl ?_
              -- r19.13 t21 := assign  t126
              refine al_take (i := 13) rfl (by kernel_rfl) (by kernel_rfl) (by kernel_rfl) rfl (fun _ _ _ h => h) (op_assign rfl) rfl ?_
              refine al_done (by kernel_rfl) ?_
              refine pq_then ?_
              refine cw_seq ?_
              refine cw_region ?_
              -- r20.0 t127 := move  t19
              refine ol_pure rfl (op_move rfl) ?_
              -- r20.1 t128 := move  t127
              refine ol_pure rfl (op_move rfl) ?_
              -- r20.2 t129 := move  t21 ?1=False
              refine ol_guard_pure rfl rfl rfl (op_move rfl) ?_
              -- r20.3 t130 := pick  t128 Ctrue t129
              refine ol_pure rfl (op_pick_f rfl rfl) ?_
              refine ol_nil ?_
              refine pq_then ?_
              refine cw_cond_f rfl ?_
              refine cw_skip ?_
              refine pq_then ?_
              refine cw_seq ?_
              refine cw_region ?_
              -- r22.0 t131 := move  t5
              refine ol_pure rfl (op_move rfl) ?_
              -- r22.1 t4 := assign  t131
              refine ol_pure rfl (op_assign rfl) ?_
              refine ol_nil ?_
              refine pq_then ?_
              refine cw_ret ?_
              refine ret1 rfl rfl ?_
              -- ret5 h25f h47t o2 o9 h93t o8
              exact hS.sc_b rfl
          · skip
            try simp only [decide_eq_true_eq, decide_eq_false_iff_not, Bool.not_eq_true', Bool.not_eq_false', Bool.not_eq_eq_eq_not, Bool.not_true, Bool.not_false] at h93
            refine cw_skip ?_
            refine pq_then ?_
            refine cw_seq ?_
            refine cw_region ?_
            -- r22.0 t131 := move  t5
            refine ol_pure rfl (op_move rfl) ?_
            -- r22.1 t4 := assign  t131
            refine ol_pure rfl (op_assign rfl) ?_
            refine ol_nil ?_
            refine pq_then ?_
            refine cw_ret ?_
            refine ret1 rfl rfl ?_
            -- ret5 h25f h47t o2 o9 h93f
            exact hS.sc_b rfl
      · skip
        refine wpOp_of_opk (i := 9) rfl ha (op_buildSlice (el := 3) (is := [0]) (xs := [.tmp 80]) (sz := 1) (cs := [.int .i64 (holdsI atoms.length rs (stepsI atoms.length rs).2)[kk]]) hS rfl rfl (fun w => by kernel_rfl) rfl (by decide)) ?_
        clear hS
        rintro _ w ⟨s81, rfl, hS⟩
        have hT := hT.back hS (by first | exact Le.refl _ | assumption) (fun x hx => by try simp only [List.take_succ_cons, List.take_zero, List.mem_cons, List.not_mem_nil, or_false] at hx; (rcases hx with rfl) <;> simp)
        refine ⟨fun _ _ => hT, ?_⟩
        refine al_at ?_ (ha.put (blt_lt rfl) _)
        refine al_step (i := 2) rfl (by kernel_rfl) rfl (op_buildSlice (el := 3) (is := []) (xs := []) (sz := 1) (cs := []) hS rfl rfl (fun w => by kernel_rfl) rfl (by decide)) ?_
        clear hS
        rintro _ w ⟨s74, rfl, hS⟩
        have hT := hT.back hS (by first | exact Le.refl _ | assumption) (fun x hx => by try simp only [List.take_succ_cons, List.take_zero, List.mem_cons, List.not_mem_nil, or_false] at hx; (rcases hx with rfl) <;> simp)
        refine ⟨fun _ _ => hT, ?_⟩
        refine al_step (i := 4) rfl (by kernel_rfl) rfl (op_append (j := 0) (m := (holdsI atoms.length rs (stepsI atoms.length rs).2).length) hS sl_29 el_3 rfl rfl rfl rfl rfl (by simp) (by decide) (hH.newsI hS.hold) (ones_i _) (by omega) (by unfold maxLen; omega)) ?_
        clear hS
        rintro _ w ⟨s74n, c_s74n, rfl, hS⟩; (try simp only [List.nil_append, List.cons_append, List.set] at hS)
        have hT := hT.back hS (by first | exact Le.refl _ | assumption) (fun x hx => by try simp only [List.take_succ_cons, List.take_zero, List.mem_cons, List.not_mem_nil, or_false] at hx; (rcases hx with rfl) <;> simp)
        refine ⟨fun _ _ => hT, ?_⟩
        refine al_step (i := 10) rfl (by kernel_rfl) rfl (op_append (j := 0) hS sl_29 el_3 rfl rfl rfl rfl rfl rfl (by decide) (hS.news (j := 1) rfl) (by simp [Value.oneCell']) (by omega) (by unfold maxLen; omega)) ?_
        clear hS
        rintro _ w ⟨s74nn, c_s74nn, rfl, hS⟩; (try simp only [List.nil_append, List.cons_append, List.set] at hS); replace hS := SS.drop [_] hS; (try simp only [List.nil_append, List.cons_append] at hS)
        obtain ⟨GT, hlT, hS2, hT9⟩ := SS.give' ((holdsI atoms.length rs (stepsI atoms.length rs).2) ++ [(holdsI atoms.length rs (stepsI atoms.length rs).2)[kk]]) [] EInt.mono hS (by decide) (by exact (by have := Rows.of_map (xs := ((holdsI atoms.length rs (stepsI atoms.length rs).2) ++ [(holdsI atoms.length rs (stepsI atoms.length rs).2)[kk]])) (f := Value.int .i64) (E := EInt) (G := G68) (fun y hy => ⟨rfl, by rcases List.mem_append.1 hy with hy | hy; exact hH.bnd y hy; simp at hy; subst hy; exact hbH⟩); simpa using this)) (by simp)
        clear hS
        have hS := hS2
        clear hS2
        (try simp only [List.nil_append, List.cons_append] at hS)
        replace hL := hL.mono EStep.mono hlT
        replace hH := hH.mono EInt.mono hlT
        have hT := hT.back hS (by first | exact Le.refl _ | assumption) (fun x hx => by try simp only [List.take_succ_cons, List.take_zero, List.mem_cons, List.not_mem_nil, or_false] at hx; (rcases hx with rfl) <;> simp)
        refine ⟨fun _ _ => hT, ?_⟩
        -- r13.11 t83 := build [31] 0:t73 1:t82
        refine al_take (i := 11) rfl (by kernel_rfl) (by kernel_rfl) (by kernel_rfl) rfl (fun _ _ _ h => h) (op_build (is := [0, 1]) (xs := [.tmp 73, .tmp 82]) (v := .agg #[.slice oL (stepsI atoms.length rs).1.length cL, .slice s74nn (0 + (holdsI atoms.length rs (stepsI atoms.length rs).2).length + 1) c_s74nn]) rfl rfl (fun w => by kernel_rfl)) rfl ?_
        refine al_step (i := 12) rfl (by kernel_rfl) rfl (op_call_fr hS cf_14 rfl (judge_Check_c _ _ hS.hold _ _ atoms rs (h1.mono EAtom.mono hS.le) (h2.mono ERule.mono hS.le) hP _ _ (stepsI atoms.length rs).1 ((holdsI atoms.length rs (stepsI atoms.length rs).2) ++ [(holdsI atoms.length rs (stepsI atoms.length rs).2)[kk]]) hL hT9)) ?_
        clear hS
        rintro v84 w ⟨F84, G84, hR84, hF84, hf84, hl84, hS⟩
        obtain ⟨vm84, hv, _⟩ := hR84
        rw [strict2 hbt hlk] at hv
        simp only [Option.isSome_none] at hv
        subst hv
        replace hL := hL.mono EStep.mono hl84
        replace hH := hH.mono EInt.mono hl84
        have hx84 := hlT.trans hl84
        have hT := hT.back hS (by first | exact Le.refl _ | assumption) (fun x hx => by try simp only [List.take_succ_cons, List.take_zero, List.mem_cons, List.not_mem_nil, or_false] at hx; (rcases hx with rfl) <;> simp)
        refine ⟨fun _ _ => hT, ?_⟩
        -- r13.13 t71 := move  t84
        refine al_take (i := 13) rfl (by kernel_rfl) (by kernel_rfl) (by kernel_rfl) rfl (fun _ _ _ h => h) (op_move rfl) rfl ?_
        -- r13.14 t85 := extract [0] t71
        refine al_take (i := 14) rfl (by kernel_rfl) (by kernel_rfl) (by kernel_rfl) rfl (fun _ _ _ h => h) (op_extract (vs := [vm84, .bool false]) rfl rfl) rfl ?_
        -- r13.15 t86 := extract [1] t71
        refine al_take (i := 15) rfl (by kernel_rfl) (by kernel_rfl) (by kernel_rfl) rfl (fun _ _ _ h => h) (op_extract (vs := [vm84, .bool false]) rfl rfl) rfl ?_
        -- r13.16 t15 := assign  t85
        refine al_take (i := 16) rfl (by kernel_rfl) (by kernel_rfl) (by kernel_rfl) rfl (fun _ _ _ h => h) (op_assign rfl) rfl ?_
        -- r13.17 t16 := assign  t86
        refine al_take (i := 17) rfl (by kernel_rfl) (by kernel_rfl) (by kernel_rfl) rfl (fun _ _ _ h => h) (op_assign rfl) rfl ?_
        refine al_done (by kernel_rfl) ?_
        refine pq_then ?_
        refine cw_seq ?_
        refine cw_region ?_
        -- r14.0 t87 := move  t14
        refine ol_pure rfl (op_move rfl) ?_
        -- r14.1 t88 := move  t87
        refine ol_pure rfl (op_move rfl) ?_
        -- r14.2 t89 := move  t16 ?1=False
        refine ol_guard_pure rfl rfl rfl (op_move rfl) ?_
        -- r14.3 t90 := pick  t88 Ctrue t89
        refine ol_pure rfl (op_pick_f rfl rfl) ?_
        refine ol_nil ?_
        refine pq_then ?_
        refine cw_cond_f rfl ?_
        refine cw_skip ?_
        refine pq_then ?_
        refine cw_seq ?_
        refine cw_seq ?_
        refine cw_region ?_
        -- r16.0 t91 := move  t6
        refine ol_pure rfl (op_move rfl) ?_
        -- r16.1 t92 := call len t91
        refine ol_pure rfl (op_len sl_28 rfl rfl) ?_
        -- r16.2 t93 := gtr t92 C0
        refine ol_pure rfl (op_gtr rfl rfl) ?_
        refine ol_nil ?_
        refine pq_then ?_
        refine cw_cond rfl (fun h93 => ?_) (fun h93 => ?_)
        · skip
          try simp only [decide_eq_true_eq, decide_eq_false_iff_not, Bool.not_eq_true', Bool.not_eq_false', Bool.not_eq_eq_eq_not, Bool.not_true, Bool.not_false] at h93
          obtain ⟨jj, hjj⟩ := Int.eq_ofNat_of_zero_le (Int.emod_nonneg z (show (((stepsI atoms.length rs).1.length : Nat) : Int) ≠ 0 by omega))
          have hjl := Int.emod_lt_of_pos z (show (0 : Int) < ((stepsI atoms.length rs).1.length : Nat) by omega)
          have hlj : jj < (stepsI atoms.length rs).1.length := by omega
          obtain ⟨us, hus, hone, hcs⟩ := hL.cells EStep.one
          obtain ⟨hoL, _, _, ⟨va9, rfl, hva, hsb⟩, hcells⟩ := hL.el hlj
          obtain ⟨oV, cV, rfl, _, _⟩ := hva.elim
          refine cw_seq ?_
          refine cw_region ?_
          -- r17.0 t94 := move  t1
          refine ol_pure rfl (op_move rfl) ?_
          -- r17.1 t95 := convert [5, 3] t94
          refine ol_pure rfl (op_conv ⟨_, Try.underlying5⟩ Try.underlying3 rfl (wrap_u8 hz)) ?_
          -- r17.2 t96 := move  t6
          refine ol_pure rfl (op_move rfl) ?_
          -- r17.3 t97 := call len t96
          refine ol_pure rfl (op_len sl_28 rfl rfl) ?_
          -- r17.4 t98 := rem t95 t97
          refine ol_pure rfl (op_val (op_rem rfl rfl (by omega) (by omega)) (congrArg (Value.int .i64) hjj)) ?_
          -- r17.5 t17 := assign  t98
          refine ol_pure rfl (op_assign rfl) ?_
          refine ol_nil ?_
          refine pq_then ?_
          refine cw_seq ?_
          refine al_start' hS (hS.take 1) (by kernel_rfl) rfl (fun w hS hT => ?_)
          -- r18.0 t100 := load [25] t2
          refine al_load (i := 0) rfl (by kernel_rfl) (by kernel_rfl) (by kernel_rfl) rfl (fun _ _ _ h => h) (by exact op_loadN agg_25 rfl (by rfl) (fun w hw k u hk => (hw.bcell (i := 0) rfl).trans hk)) rfl hT ?_
          -- r18.2 t102 := move  t6
          refine al_take (i := 2) rfl (by kernel_rfl) (by kernel_rfl) (by kernel_rfl) rfl (fun _ _ _ h => h) (op_move rfl) rfl ?_
          -- r18.4 t104 := move  t6
          refine al_take (i := 4) rfl (by kernel_rfl) (by kernel_rfl) (by kernel_rfl) rfl (fun _ _ _ h => h) (op_move rfl) rfl ?_
          -- r18.5 t105 := move  t17
          refine al_take (i := 5) rfl (by kernel_rfl) (by kernel_rfl) (by kernel_rfl) rfl (fun _ _ _ h => h) (op_move rfl) rfl ?_
          -- r18.6 t106 := indexAddr [28] t104 t105
          refine al_take (i := 6) rfl (by kernel_rfl) (by kernel_rfl) (by kernel_rfl) rfl (fun _ _ _ h => h) (op_indexN sl_28 rfl rfl (by omega) hoL) rfl ?_
          -- r18.7 t107 := load [44] t106
          refine al_load (i := 7) rfl (by kernel_rfl) (by kernel_rfl) (by kernel_rfl) rfl (fun _ _ _ h => h) (by exact op_loadN agg_44 rfl (by rfl) (fun w hw k u hk => hw.gcell (hcells k u hk))) rfl hT ?_
          -- r18.10 t110 := move  t8
          refine al_take (i := 10) rfl (by kernel_rfl) (by kernel_rfl) (by kernel_rfl) rfl (fun _ _ _ h => h) (op_move rfl) rfl ?_
          refine al_two (i := 1) (j := 8) (by kernel_rfl) (fun a ha => ?_) (fun a ha => ?_)
          · skip
            refine wpOp_of_opk (i := 1) rfl ha (op_buildSlice (el := 44) (is := []) (xs := []) (sz := 2) (cs := []) hS rfl rfl (fun w => by kernel_rfl) rfl (by decide)) ?_
            clear hS
            rintro _ w ⟨s101, rfl, hS⟩
            have hT := hT.back hS (by first | exact Le.refl _ | assumption) (fun x hx => by try simp only [List.take_succ_cons, List.take_zero, List.mem_cons, List.not_mem_nil, or_false] at hx; (rcases hx with rfl) <;> simp)
            refine ⟨fun _ _ => hT, ?_⟩
            refine al_at ?_ (ha.put (blt_lt rfl) _)
            refine al_two (i := 3) (j := 8) (by kernel_rfl) (fun a ha => ?_) (fun a ha => ?_)
            · skip
              refine wpOp_of_opk (i := 3) rfl ha (op_append (j := 0) (m := (stepsI atoms.length rs).1.length) (news := us) hS sl_28 el_44 rfl rfl rfl rfl rfl hus.1 (by decide) (fun k u hu => ⟨(hcs k u hu).1, hS.hold.cell (hcs k u hu).2⟩) hone (by omega) (by unfold maxLen; omega)) ?_
              clear hS
              rintro _ w ⟨s101n, c_s101n, rfl, hS⟩; (try simp only [List.nil_append, List.cons_append, List.set] at hS)
              have hT := hT.back hS (by first | exact Le.refl _ | assumption) (fun x hx => by try simp only [List.take_succ_cons, List.take_zero, List.mem_cons, List.not_mem_nil, or_false] at hx; (rcases hx with rfl) <;> simp)
              refine ⟨fun _ _ => hT, ?_⟩
              refine al_at ?_ (ha.put (blt_lt rfl) _)
              refine al_step (i := 8) rfl (by kernel_rfl) rfl (op_buildSlice (el := 44) (is := [0]) (xs := [.tmp 107]) (sz := 2) (cs := [.int .i64 (stepsI atoms.length rs).1[jj].rule, .slice oV (stepsI atoms.length rs).1[jj].atoms.length cV]) hS rfl rfl (fun w => by kernel_rfl) rfl (by decide)) ?_
              clear hS
              rintro _ w ⟨s108, rfl, hS⟩
              have hT := hT.back hS (by first | exact Le.refl _ | assumption) (fun x hx => by try simp only [List.take_succ_cons, List.take_zero, List.mem_cons, List.not_mem_nil, or_false] at hx; (rcases hx with rfl) <;> simp)
              refine ⟨fun _ _ => hT, ?_⟩
              refine al_step (i := 9) rfl (by kernel_rfl) rfl (op_append (j := 1) hS sl_28 el_44 rfl rfl rfl rfl rfl rfl (by decide) (hS.news (j := 0) rfl) (by simp [Value.oneCell']) (by omega) (by unfold maxLen; omega)) ?_
              clear hS
              rintro _ w ⟨s101nn, c_s101nn, rfl, hS⟩; (try simp only [List.nil_append, List.cons_append, List.set] at hS); replace hS := SS.drop [] hS; (try simp only [List.nil_append, List.cons_append] at hS)
              have hL8 := hL
              obtain ⟨G9, hl9, hS2, hL9b⟩ := SS.give' ((stepsI atoms.length rs).1 ++ [(stepsI atoms.length rs).1[jj]]) [] EStep.mono hS (by decide) (by exact (hus.snoc (x := (stepsI atoms.length rs).1[jj]) (cs := [.int .i64 (stepsI atoms.length rs).1[jj].rule, .slice oV (stepsI atoms.length rs).1[jj].atoms.length cV]) rfl ⟨_, rfl, hva, hsb⟩)) (by simp)
              clear hS
              have hS := hS2
              clear hS2
              (try simp only [List.nil_append, List.cons_append] at hS)
              replace hL := hL.mono EStep.mono hl9
              replace hH := hH.mono EInt.mono hl9
              have hT := hT.back hS (by first | exact Le.refl _ | assumption) (fun x hx => by try simp only [List.take_succ_cons, List.take_zero, List.mem_cons, List.not_mem_nil, or_false] at hx; (rcases hx with rfl) <;> simp)
              refine ⟨fun _ _ => hT, ?_⟩
              -- r18.11 t111 := build [31] 0:t109 1:t110
              refine al_take (i := 11) rfl (by kernel_rfl) (by kernel_rfl) (by kernel_rfl) rfl (fun _ _ _ h => h) (op_build (is := [0, 1]) (xs := [.tmp 109, .tmp 110]) (v := .agg #[.slice s101nn (0 + (stepsI atoms.length rs).1.length + 1) c_s101nn, .slice oH (holdsI atoms.length rs (stepsI atoms.length rs).2).length cH]) rfl rfl (fun w => by kernel_rfl)) rfl ?_
              refine al_step (i := 12) rfl (by kernel_rfl) rfl (op_call_fr hS cf_14 rfl (judge_Check_c _ _ hS.hold _ _ atoms rs (h1.mono EAtom.mono hS.le) (h2.mono ERule.mono hS.le) hP _ _ ((stepsI atoms.length rs).1 ++ [(stepsI atoms.length rs).1[jj]]) (holdsI atoms.length rs (stepsI atoms.length rs).2) hL9b hH)) ?_
              clear hS
              rintro v112 w ⟨F112, G112, hR112, hF112, hf112, hl112, hS⟩
              obtain ⟨vm112, hv, _⟩ := hR112
              rw [strict3 hbt hlj] at hv
              simp only [Option.isSome_none] at hv
              subst hv
              replace hL := hL.mono EStep.mono hl112
              replace hH := hH.mono EInt.mono hl112
              have hx112 := hl9.trans hl112
              have hT := hT.back hS (by first | exact Le.refl _ | assumption) (fun x hx => by try simp only [List.take_succ_cons, List.take_zero, List.mem_cons, List.not_mem_nil, or_false] at hx; (rcases hx with rfl) <;> simp)
              refine ⟨fun _ _ => hT, ?_⟩
              -- r18.13 t99 := move  t112
              refine al_take (i := 13) rfl (by kernel_rfl) (by kernel_rfl) (by kernel_rfl) rfl (fun _ _ _ h => h) (op_move rfl) rfl ?_
              -- r18.14 t113 := extract [0] t99
              refine al_take (i := 14) rfl (by kernel_rfl) (by kernel_rfl) (by kernel_rfl) rfl (fun _ _ _ h => h) (op_extract (vs := [vm112, .bool false]) rfl rfl) rfl ?_
              -- r18.15 t114 := extract [1] t99
              refine al_take (i := 15) rfl (by kernel_rfl) (by kernel_rfl) (by kernel_rfl) rfl (fun _ _ _ h => h) (op_extract (vs := [vm112, .bool false]) rfl rfl) rfl ?_
              -- r18.16 t18 := assign  t113
              refine al_take (i := 16) rfl (by kernel_rfl) (by kernel_rfl) (by kernel_rfl) rfl (fun _ _ _ h => h) (op_assign rfl) rfl ?_
              -- r18.17 t19 := assign  t114
              refine al_take (i := 17) rfl (by kernel_rfl) (by kernel_rfl) (by kernel_rfl) rfl (fun _ _ _ h => h) (op_assign rfl) rfl ?_
              refine al_done (by kernel_rfl) ?_
              refine pq_then ?_
              refine cw_seq ?_
              refine al_start' hS (hS.take 1) (by kernel_rfl) rfl (fun w hS hT => ?_)
              -- r19.0 t116 := load [25] t2
              refine al_load (i := 0) rfl (by kernel_rfl) (by kernel_rfl) (by kernel_rfl) rfl (fun _ _ _ h => h) (by exact op_loadN agg_25 rfl (by rfl) (fun w hw k u hk => (hw.bcell (i := 0) rfl).trans hk)) rfl hT ?_
              -- r19.1 t117 := move  t6
              refine al_take (i := 1) rfl (by kernel_rfl) (by kernel_rfl) (by kernel_rfl) rfl (fun _ _ _ h => h) (op_move rfl) rfl ?_
              -- r19.2 t118 := move  t6
              refine al_take (i := 2) rfl (by kernel_rfl) (by kernel_rfl) (by kernel_rfl) rfl (fun _ _ _ h => h) (op_move rfl) rfl ?_
              -- r19.3 t119 := call len t118
              refine al_take (i := 3) rfl (by kernel_rfl) (by kernel_rfl) (by kernel_rfl) rfl (fun _ _ _ h => h) (op_len sl_28 rfl rfl) rfl ?_
              -- r19.4 t120 := sub t119 C1
              refine al_take (i := 4) rfl (by kernel_rfl) (by kernel_rfl) (by kernel_rfl) rfl (fun _ _ _ h => h) (op_val (op_sub rfl rfl (by omega) (by omega)) (v' := .int .i64 (((stepsI atoms.length rs).1.length - 1 : Nat) : Int)) (congrArg (Value.int .i64) (by omega))) rfl ?_
              -- r19.5 t121 := slice t117 [:t120:]
              have hcut3 := hL.cut (lo := 0) (hi := (stepsI atoms.length rs).1.length - 1) (Nat.zero_le _) (by omega)
              obtain ⟨oQ, cQ, hQ, _, _⟩ := hcut3.elimN (n := (stepsI atoms.length rs).1.length - 1) (by simp)
              rw [hQ, List.drop_zero] at hcut3
              refine al_take (i := 5) rfl (by kernel_rfl) (by kernel_rfl) (by kernel_rfl) rfl (fun _ _ _ h => h) (op_val (op_slice_h (h := (stepsI atoms.length rs).1.length - 1) sl_28 rfl rfl (by omega)) hQ) rfl ?_
              -- r19.6 t122 := move  t8
              refine al_take (i := 6) rfl (by kernel_rfl) (by kernel_rfl) (by kernel_rfl) rfl (fun _ _ _ h => h) (op_move rfl) rfl ?_
              -- r19.7 t123 := build [31] 0:t121 1:t122
              refine al_take (i := 7) rfl (by kernel_rfl) (by kernel_rfl) (by kernel_rfl) rfl (fun _ _ _ h => h) (op_build (is := [0, 1]) (xs := [.tmp 121, .tmp 122]) (v := .agg #[.slice oQ ((stepsI atoms.length rs).1.length - 1) cQ, .slice oH (holdsI atoms.length rs (stepsI atoms.length rs).2).length cH]) rfl rfl (fun w => by kernel_rfl)) rfl ?_
              refine al_step (i := 8) rfl (by kernel_rfl) rfl (op_call_fr hS cf_14 rfl (judge_Check_c _ _ hS.hold _ _ atoms rs (h1.mono EAtom.mono hS.le) (h2.mono ERule.mono hS.le) hP _ _ ((stepsI atoms.length rs).1.take ((stepsI atoms.length rs).1.length - 1)) (holdsI atoms.length rs (stepsI atoms.length rs).2) hcut3 hH)) ?_
              clear hS
              rintro v124 w ⟨F124, G124, hR124, hF124, hf124, hl124, hS⟩
              obtain ⟨vm124, hv, _⟩ := hR124
              rw [strict4 hbt (by omega)] at hv
              simp only [Option.isSome_none] at hv
              subst hv
              replace hL := hL.mono EStep.mono hl124
              replace hH := hH.mono EInt.mono hl124
              refine ⟨no_need (by kernel_rfl), ?_⟩
              -- r19.9 t115 := move  t124
              refine al_take (i := 9) rfl (by kernel_rfl) (by kernel_rfl) (by kernel_rfl) rfl (fun _ _ _ h => h) (op_move rfl) rfl ?_
              -- r19.10 t125 := extract [0] t115
              refine al_take (i := 10) rfl (by kernel_rfl) (by kernel_rfl) (by kernel_rfl) rfl (fun _ _ _ h => h) (op_extract (vs := [vm124, .bool false]) rfl rfl) rfl ?_
              -- r19.11 t126 := extract [1] t115
              refine al_take (i := 11) rfl (by kernel_rfl) (by kernel_rfl) (by kernel_rfl) rfl (fun _ _ _ h => h) (op_extract (vs := [vm124, .bool false]) rfl rfl) rfl ?_
              -- r19.12 t20 := assign  t125
              refine al_take (i := 12) rfl (by kernel_rfl) (by kernel_rfl) (by kernel_rfl) rfl (fun _ _ _ h => h) (op_assign rfl) rfl ?_
              -- r19.13 t21 := assign  t126
              refine al_take (i := 13) rfl (by kernel_rfl) (by kernel_rfl) (by kernel_rfl) rfl (fun _ _ _ h => h) (op_assign rfl) rfl ?_
              refine al_done (by kernel_rfl) ?_
              refine pq_then ?_
              refine cw_seq ?_
              refine cw_region ?_
              -- r20.0 t127 := move  t19
              refine ol_pure rfl (op_move rfl) ?_
              -- r20.1 t128 := move  t127
              refine ol_pure rfl (op_move rfl) ?_
              -- r20.2 t129 := move  t21 ?1=False
              refine ol_guard_pure rfl rfl rfl (op_move rfl) ?_
              -- r20.3 t130 := pick  t128 Ctrue t129
              refine ol_pure rfl (op_pick_f rfl rfl) ?_
              refine ol_nil ?_
              refine pq_then ?_
              refine cw_cond_f rfl ?_
              refine cw_skip ?_
              refine pq_then ?_
              refine cw_seq ?_
              refine cw_region ?_
              -- r22.0 t131 := move  t5
              refine ol_pure rfl (op_move rfl) ?_
              -- r22.1 t4 := assign  t131
              refine ol_pure rfl (op_assign rfl) ?_
              refine ol_nil ?_
              refine pq_then ?_
              refine cw_ret ?_
              refine ret1 rfl rfl ?_
              -- ret5 h25f h47t o9 h93t o1 o3
              exact hS.sc_b rfl
            · skip
              refine wpOp_of_opk (i := 8) rfl ha (op_buildSlice (el := 44) (is := [0]) (xs := [.tmp 107]) (sz := 2) (cs := [.int .i64 (stepsI atoms.length rs).1[jj].rule, .slice oV (stepsI atoms.length rs).1[jj].atoms.length cV]) hS rfl rfl (fun w => by kernel_rfl) rfl (by decide)) ?_
              clear hS
              rintro _ w ⟨s108, rfl, hS⟩
              have hT := hT.back hS (by first | exact Le.refl _ | assumption) (fun x hx => by try simp only [List.take_succ_cons, List.take_zero, List.mem_cons, List.not_mem_nil, or_false] at hx; (rcases hx with rfl) <;> simp)
              refine ⟨fun _ _ => hT, ?_⟩
              refine al_at ?_ (ha.put (blt_lt rfl) _)
              refine al_step (i := 3) rfl (by kernel_rfl) rfl (op_append (j := 1) (m := (stepsI atoms.length rs).1.length) (news := us) hS sl_28 el_44 rfl rfl rfl rfl rfl hus.1 (by decide) (fun k u hu => ⟨(hcs k u hu).1, hS.hold.cell (hcs k u hu).2⟩) hone (by omega) (by unfold maxLen; omega)) ?_
              clear hS
              rintro _ w ⟨s101n, c_s101n, rfl, hS⟩; (try simp only [List.nil_append, List.cons_append, List.set] at hS)
              have hT := hT.back hS (by first | exact Le.refl _ | assumption) (fun x hx => by try simp only [List.take_succ_cons, List.take_zero, List.mem_cons, List.not_mem_nil, or_false] at hx; (rcases hx with rfl) <;> simp)
              refine ⟨fun _ _ => hT, ?_⟩
              refine al_step (i := 9) rfl (by kernel_rfl) rfl (op_append (j := 1) hS sl_28 el_44 rfl rfl rfl rfl rfl rfl (by decide) (hS.news (j := 0) rfl) (by simp [Value.oneCell']) (by omega) (by unfold maxLen; omega)) ?_
              clear hS
              rintro _ w ⟨s101nn, c_s101nn, rfl, hS⟩; (try simp only [List.nil_append, List.cons_append, List.set] at hS); replace hS := SS.drop [] hS; (try simp only [List.nil_append, List.cons_append] at hS)
              have hL8 := hL
              obtain ⟨G9, hl9, hS2, hL9b⟩ := SS.give' ((stepsI atoms.length rs).1 ++ [(stepsI atoms.length rs).1[jj]]) [] EStep.mono hS (by decide) (by exact (hus.snoc (x := (stepsI atoms.length rs).1[jj]) (cs := [.int .i64 (stepsI atoms.length rs).1[jj].rule, .slice oV (stepsI atoms.length rs).1[jj].atoms.length cV]) rfl ⟨_, rfl, hva, hsb⟩)) (by simp)
              clear hS
              have hS := hS2
              clear hS2
              (try simp only [List.nil_append, List.cons_append] at hS)
              replace hL := hL.mono EStep.mono hl9
              replace hH := hH.mono EInt.mono hl9
              have hT := hT.back hS (by first | exact Le.refl _ | assumption) (fun x hx => by try simp only [List.take_succ_cons, List.take_zero, List.mem_cons, List.not_mem_nil, or_false] at hx; (rcases hx with rfl) <;> simp)
              refine ⟨fun _ _ => hT, ?_⟩
              -- r18.11 t111 := build [31] 0:t109 1:t110
              refine al_take (i := 11) rfl (by kernel_rfl) (by kernel_rfl) (by kernel_rfl) rfl (fun _ _ _ h => h) (op_build (is := [0, 1]) (xs := [.tmp 109, .tmp 110]) (v := .agg #[.slice s101nn (0 + (stepsI atoms.length rs).1.length + 1) c_s101nn, .slice oH (holdsI atoms.length rs (stepsI atoms.length rs).2).length cH]) rfl rfl (fun w => by kernel_rfl)) rfl ?_
              refine al_step (i := 12) rfl (by kernel_rfl) rfl (op_call_fr hS cf_14 rfl (judge_Check_c _ _ hS.hold _ _ atoms rs (h1.mono EAtom.mono hS.le) (h2.mono ERule.mono hS.le) hP _ _ ((stepsI atoms.length rs).1 ++ [(stepsI atoms.length rs).1[jj]]) (holdsI atoms.length rs (stepsI atoms.length rs).2) hL9b hH)) ?_
              clear hS
              rintro v112 w ⟨F112, G112, hR112, hF112, hf112, hl112, hS⟩
              obtain ⟨vm112, hv, _⟩ := hR112
              rw [strict3 hbt hlj] at hv
              simp only [Option.isSome_none] at hv
              subst hv
              replace hL := hL.mono EStep.mono hl112
              replace hH := hH.mono EInt.mono hl112
              have hx112 := hl9.trans hl112
              have hT := hT.back hS (by first | exact Le.refl _ | assumption) (fun x hx => by try simp only [List.take_succ_cons, List.take_zero, List.mem_cons, List.not_mem_nil, or_false] at hx; (rcases hx with rfl) <;> simp)
              refine ⟨fun _ _ => hT, ?_⟩
              -- r18.13 t99 := move  t112
              refine al_take (i := 13) rfl (by kernel_rfl) (by kernel_rfl) (by kernel_rfl) rfl (fun _ _ _ h => h) (op_move rfl) rfl ?_
              -- r18.14 t113 := extract [0] t99
              refine al_take (i := 14) rfl (by kernel_rfl) (by kernel_rfl) (by kernel_rfl) rfl (fun _ _ _ h => h) (op_extract (vs := [vm112, .bool false]) rfl rfl) rfl ?_
              -- r18.15 t114 := extract [1] t99
              refine al_take (i := 15) rfl (by kernel_rfl) (by kernel_rfl) (by kernel_rfl) rfl (fun _ _ _ h => h) (op_extract (vs := [vm112, .bool false]) rfl rfl) rfl ?_
              -- r18.16 t18 := assign  t113
              refine al_take (i := 16) rfl (by kernel_rfl) (by kernel_rfl) (by kernel_rfl) rfl (fun _ _ _ h => h) (op_assign rfl) rfl ?_
              -- r18.17 t19 := assign  t114
              refine al_take (i := 17) rfl (by kernel_rfl) (by kernel_rfl) (by kernel_rfl) rfl (fun _ _ _ h => h) (op_assign rfl) rfl ?_
              refine al_done (by kernel_rfl) ?_
              refine pq_then ?_
              refine cw_seq ?_
              refine al_start' hS (hS.take 1) (by kernel_rfl) rfl (fun w hS hT => ?_)
              -- r19.0 t116 := load [25] t2
              refine al_load (i := 0) rfl (by kernel_rfl) (by kernel_rfl) (by kernel_rfl) rfl (fun _ _ _ h => h) (by exact op_loadN agg_25 rfl (by rfl) (fun w hw k u hk => (hw.bcell (i := 0) rfl).trans hk)) rfl hT ?_
              -- r19.1 t117 := move  t6
              refine al_take (i := 1) rfl (by kernel_rfl) (by kernel_rfl) (by kernel_rfl) rfl (fun _ _ _ h => h) (op_move rfl) rfl ?_
              -- r19.2 t118 := move  t6
              refine al_take (i := 2) rfl (by kernel_rfl) (by kernel_rfl) (by kernel_rfl) rfl (fun _ _ _ h => h) (op_move rfl) rfl ?_
              -- r19.3 t119 := call len t118
              refine al_take (i := 3) rfl (by kernel_rfl) (by kernel_rfl) (by kernel_rfl) rfl (fun _ _ _ h => h) (op_len sl_28 rfl rfl) rfl ?_
              -- r19.4 t120 := sub t119 C1
              refine al_take (i := 4) rfl (by kernel_rfl) (by kernel_rfl) (by kernel_rfl) rfl (fun _ _ _ h => h) (op_val (op_sub rfl rfl (by omega) (by omega)) (v' := .int .i64 (((stepsI atoms.length rs).1.length - 1 : Nat) : Int)) (congrArg (Value.int .i64) (by omega))) rfl ?_
              -- r19.5 t121 := slice t117 [:t120:]
              have hcut3 := hL.cut (lo := 0) (hi := (stepsI atoms.length rs).1.length - 1) (Nat.zero_le _) (by omega)
              obtain ⟨oQ, cQ, hQ, _, _⟩ := hcut3.elimN (n := (stepsI atoms.length rs).1.length - 1) (by simp)
              rw [hQ, List.drop_zero] at hcut3
              refine al_take (i := 5) rfl (by kernel_rfl) (by kernel_rfl) (by kernel_rfl) rfl (fun _ _ _ h => h) (op_val (op_slice_h (h := (stepsI atoms.length rs).1.length - 1) sl_28 rfl rfl (by omega)) hQ) rfl ?_
              -- r19.6 t122 := move  t8
              refine al_take (i := 6) rfl (by kernel_rfl) (by kernel_rfl) (by kernel_rfl) rfl (fun _ _ _ h => h) (op_move rfl) rfl ?_
              -- r19.7 t123 := build [31] 0:t121 1:t122
              refine al_take (i := 7) rfl (by kernel_rfl) (by kernel_rfl) (by kernel_rfl) rfl (fun _ _ _ h => h) (op_build (is := [0, 1]) (xs := [.tmp 121, .tmp 122]) (v := .agg #[.slice oQ ((stepsI atoms.length rs).1.length - 1) cQ, .slice oH (holdsI atoms.length rs (stepsI atoms.length rs).2).length cH]) rfl rfl (fun w => by kernel_rfl)) rfl ?_
              refine al_step (i := 8) rfl (by kernel_rfl) rfl (op_call_fr hS cf_14 rfl (judge_Check_c _ _ hS.hold _ _ atoms rs (h1.mono EAtom.mono hS.le) (h2.mono ERule.mono hS.le) hP _ _ ((stepsI atoms.length rs).1.take ((stepsI atoms.length rs).1.length - 1)) (holdsI atoms.length rs (stepsI atoms.length rs).2) hcut3 hH)) ?_
              clear hS
              rintro v124 w ⟨F124, G124, hR124, hF124, hf124, hl124, hS⟩
              obtain ⟨vm124, hv, _⟩ := hR124
              rw [strict4 hbt (by omega)] at hv
              simp only [Option.isSome_none] at hv
              subst hv
              replace hL := hL.mono EStep.mono hl124
              replace hH := hH.mono EInt.mono hl124
              refine ⟨no_need (by kernel_rfl), ?_⟩
              -- r19.9 t115 := move  t124
              refine al_take (i := 9) rfl (by kernel_rfl) (by kernel_rfl) (by kernel_rfl) rfl (fun _ _ _ h => h) (op_move rfl) rfl ?_
              -- r19.10 t125 := extract [0] t115
              refine al_take (i := 10) rfl (by kernel_rfl) (by kernel_rfl) (by kernel_rfl) rfl (fun _ _ _ h => h) (op_extract (vs := [vm124, .bool false]) rfl rfl) rfl ?_
              -- r19.11 t126 := extract [1] t115
              refine al_take (i := 11) rfl (by kernel_rfl) (by kernel_rfl) (by kernel_rfl) rfl (fun _ _ _ h => h) (op_extract (vs := [vm124, .bool false]) rfl rfl) rfl ?_
              -- r19.12 t20 := assign  t125
              refine al_take (i := 12) rfl (by kernel_rfl) (by kernel_rfl) (by kernel_rfl) rfl (fun _ _ _ h => h) (op_assign rfl) rfl ?_
              -- r19.13 t21 := assign  t126
              refine al_take (i := 13) rfl (by kernel_rfl) (by kernel_rfl) (by kernel_rfl) rfl (fun _ _ _ h => h) (op_assign rfl) rfl ?_
              refine al_done (by kernel_rfl) ?_
              refine pq_then ?_
              refine cw_seq ?_
              refine cw_region ?_
              -- r20.0 t127 := move  t19
              refine ol_pure rfl (op_move rfl) ?_
              -- r20.1 t128 := move  t127
              refine ol_pure rfl (op_move rfl) ?_
              -- r20.2 t129 := move  t21 ?1=False
              refine ol_guard_pure rfl rfl rfl (op_move rfl) ?_
              -- r20.3 t130 := pick  t128 Ctrue t129
              refine ol_pure rfl (op_pick_f rfl rfl) ?_
              refine ol_nil ?_
              refine pq_then ?_
              refine cw_cond_f rfl ?_
              refine cw_skip ?_
              refine pq_then ?_
              refine cw_seq ?_
              refine cw_region ?_
              -- r22.0 t131 := move  t5
              refine ol_pure rfl (op_move rfl) ?_
              -- r22.1 t4 := assign  t131
              refine ol_pure rfl (op_assign rfl) ?_
              refine ol_nil ?_
              refine pq_then ?_
              refine cw_ret ?_
              refine ret1 rfl rfl ?_
              -- ret5 h25f h47t o9 h93t o1 o8
              exact hS.sc_b rfl
          · skip
            refine wpOp_of_opk (i := 8) rfl ha (op_buildSlice (el := 44) (is := [0]) (xs := [.tmp 107]) (sz := 2) (cs := [.int .i64 (stepsI atoms.length rs).1[jj].rule, .slice oV (stepsI atoms.length rs).1[jj].atoms.length cV]) hS rfl rfl (fun w => by kernel_rfl) rfl (by decide)) ?_
            clear hS
            rintro _ w ⟨s108, rfl, hS⟩
            have hT := hT.back hS (by first | exact Le.refl _ | assumption) (fun x hx => by try simp only [List.take_succ_cons, List.take_zero, List.mem_cons, List.not_mem_nil, or_false] at hx; (rcases hx with rfl) <;> simp)
            refine ⟨fun _ _ => hT, ?_⟩
            refine al_at ?_ (ha.put (blt_lt rfl) _)
            refine al_step (i := 1) rfl (by kernel_rfl) rfl (op_buildSlice (el := 44) (is := []) (xs := []) (sz := 2) (cs := []) hS rfl rfl (fun w => by kernel_rfl) rfl (by decide)) ?_
            clear hS
            rintro _ w ⟨s101, rfl, hS⟩
            have hT := hT.back hS (by first | exact Le.refl _ | assumption) (fun x hx => by try simp only [List.take_succ_cons, List.take_zero, List.mem_cons, List.not_mem_nil, or_false] at hx; (rcases hx with rfl) <;> simp)
            refine ⟨fun _ _ => hT, ?_⟩
            refine al_step (i := 3) rfl (by kernel_rfl) rfl (op_append (j := 0) (m := (stepsI atoms.length rs).1.length) (news := us) hS sl_28 el_44 rfl rfl rfl rfl rfl hus.1 (by decide) (fun k u hu => ⟨(hcs k u hu).1, hS.hold.cell (hcs k u hu).2⟩) hone (by omega) (by unfold maxLen; omega)) ?_
            clear hS
            rintro _ w ⟨s101n, c_s101n, rfl, hS⟩; (try simp only [List.nil_append, List.cons_append, List.set] at hS)
            have hT := hT.back hS (by first | exact Le.refl _ | assumption) (fun x hx => by try simp only [List.take_succ_cons, List.take_zero, List.mem_cons, List.not_mem_nil, or_false] at hx; (rcases hx with rfl) <;> simp)
            refine ⟨fun _ _ => hT, ?_⟩
            refine al_step (i := 9) rfl (by kernel_rfl) rfl (op_append (j := 0) hS sl_28 el_44 rfl rfl rfl rfl rfl rfl (by decide) (hS.news (j := 1) rfl) (by simp [Value.oneCell']) (by omega) (by unfold maxLen; omega)) ?_
            clear hS
            rintro _ w ⟨s101nn, c_s101nn, rfl, hS⟩; (try simp only [List.nil_append, List.cons_append, List.set] at hS); replace hS := SS.drop [_] hS; (try simp only [List.nil_append, List.cons_append] at hS)
            have hL8 := hL
            obtain ⟨G9, hl9, hS2, hL9b⟩ := SS.give' ((stepsI atoms.length rs).1 ++ [(stepsI atoms.length rs).1[jj]]) [] EStep.mono hS (by decide) (by exact (hus.snoc (x := (stepsI atoms.length rs).1[jj]) (cs := [.int .i64 (stepsI atoms.length rs).1[jj].rule, .slice oV (stepsI atoms.length rs).1[jj].atoms.length cV]) rfl ⟨_, rfl, hva, hsb⟩)) (by simp)
            clear hS
            have hS := hS2
            clear hS2
            (try simp only [List.nil_append, List.cons_append] at hS)
            replace hL := hL.mono EStep.mono hl9
            replace hH := hH.mono EInt.mono hl9
            have hT := hT.back hS (by first | exact Le.refl _ | assumption) (fun x hx => by try simp only [List.take_succ_cons, List.take_zero, List.mem_cons, List.not_mem_nil, or_false] at hx; (rcases hx with rfl) <;> simp)
            refine ⟨fun _ _ => hT, ?_⟩
            -- r18.11 t111 := build [31] 0:t109 1:t110
            refine al_take (i := 11) rfl (by kernel_rfl) (by kernel_rfl) (by kernel_rfl) rfl (fun _ _ _ h => h) (op_build (is := [0, 1]) (xs := [.tmp 109, .tmp 110]) (v := .agg #[.slice s101nn (0 + (stepsI atoms.length rs).1.length + 1) c_s101nn, .slice oH (holdsI atoms.length rs (stepsI atoms.length rs).2).length cH]) rfl rfl (fun w => by kernel_rfl)) rfl ?_
            refine al_step (i := 12) rfl (by kernel_rfl) rfl (op_call_fr hS cf_14 rfl (judge_Check_c _ _ hS.hold _ _ atoms rs (h1.mono EAtom.mono hS.le) (h2.mono ERule.mono hS.le) hP _ _ ((stepsI atoms.length rs).1 ++ [(stepsI atoms.length rs).1[jj]]) (holdsI atoms.length rs (stepsI atoms.length rs).2) hL9b hH)) ?_
            clear hS
            rintro v112 w ⟨F112, G112, hR112, hF112, hf112, hl112, hS⟩
            obtain ⟨vm112, hv, _⟩ := hR112
            rw [strict3 hbt hlj] at hv
            simp only [Option.isSome_none] at hv
            subst hv
            replace hL := hL.mono EStep.mono hl112
            replace hH := hH.mono EInt.mono hl112
            have hx112 := hl9.trans hl112
            have hT := hT.back hS (by first | exact Le.refl _ | assumption) (fun x hx => by try simp only [List.take_succ_cons, List.take_zero, List.mem_cons, List.not_mem_nil, or_false] at hx; (rcases hx with rfl) <;> simp)
            refine ⟨fun _ _ => hT, ?_⟩
            -- r18.13 t99 := move  t112
            refine al_take (i := 13) rfl (by kernel_rfl) (by kernel_rfl) (by kernel_rfl) rfl (fun _ _ _ h => h) (op_move rfl) rfl ?_
            -- r18.14 t113 := extract [0] t99
            refine al_take (i := 14) rfl (by kernel_rfl) (by kernel_rfl) (by kernel_rfl) rfl (fun _ _ _ h => h) (op_extract (vs := [vm112, .bool false]) rfl rfl) rfl ?_
            -- r18.15 t114 := extract [1] t99
            refine al_take (i := 15) rfl (by kernel_rfl) (by kernel_rfl) (by kernel_rfl) rfl (fun _ _ _ h => h) (op_extract (vs := [vm112, .bool false]) rfl rfl) rfl ?_
            -- r18.16 t18 := assign  t113
            refine al_take (i := 16) rfl (by kernel_rfl) (by kernel_rfl) (by kernel_rfl) rfl (fun _ _ _ h => h) (op_assign rfl) rfl ?_
            -- r18.17 t19 := assign  t114
            refine al_take (i := 17) rfl (by kernel_rfl) (by kernel_rfl) (by kernel_rfl) rfl (fun _ _ _ h => h) (op_assign rfl) rfl ?_
            refine al_done (by kernel_rfl) ?_
            refine pq_then ?_
            refine cw_seq ?_
            refine al_start' hS (hS.take 1) (by kernel_rfl) rfl (fun w hS hT => ?_)
            -- r19.0 t116 := load [25] t2
            refine al_load (i := 0) rfl (by kernel_rfl) (by kernel_rfl) (by kernel_rfl) rfl (fun _ _ _ h => h) (by exact op_loadN agg_25 rfl (by rfl) (fun w hw k u hk => (hw.bcell (i := 0) rfl).trans hk)) rfl hT ?_
            -- r19.1 t117 := move  t6
            refine al_take (i := 1) rfl (by kernel_rfl) (by kernel_rfl) (by kernel_rfl) rfl (fun _ _ _ h => h) (op_move rfl) rfl ?_
            -- r19.2 t118 := move  t6
            refine al_take (i := 2) rfl (by kernel_rfl) (by kernel_rfl) (by kernel_rfl) rfl (fun _ _ _ h => h) (op_move rfl) rfl ?_
            -- r19.3 t119 := call len t118
            refine al_take (i := 3) rfl (by kernel_rfl) (by kernel_rfl) (by kernel_rfl) rfl (fun _ _ _ h => h) (op_len sl_28 rfl rfl) rfl ?_
            -- r19.4 t120 := sub t119 C1
            refine al_take (i := 4) rfl (by kernel_rfl) (by kernel_rfl) (by kernel_rfl) rfl (fun _ _ _ h => h) (op_val (op_sub rfl rfl (by omega) (by omega)) (v' := .int .i64 (((stepsI atoms.length rs).1.length - 1 : Nat) : Int)) (congrArg (Value.int .i64) (by omega))) rfl ?_
            -- r19.5 t121 := slice t117 [:t120:]
            have hcut3 := hL.cut (lo := 0) (hi := (stepsI atoms.length rs).1.length - 1) (Nat.zero_le _) (by omega)
            obtain ⟨oQ, cQ, hQ, _, _⟩ := hcut3.elimN (n := (stepsI atoms.length rs).1.length - 1) (by simp)
            rw [hQ, List.drop_zero] at hcut3
            refine al_take (i := 5) rfl (by kernel_rfl) (by kernel_rfl) (by kernel_rfl) rfl (fun _ _ _ h => h) (op_val (op_slice_h (h := (stepsI atoms.length rs).1.length - 1) sl_28 rfl rfl (by omega)) hQ) rfl ?_
            -- r19.6 t122 := move  t8
            refine al_take (i := 6) rfl (by kernel_rfl) (by kernel_rfl) (by kernel_rfl) rfl (fun _ _ _ h => h) (op_move rfl) rfl ?_
            -- r19.7 t123 := build [31] 0:t121 1:t122
            refine al_take (i := 7) rfl (by kernel_rfl) (by kernel_rfl) (by kernel_rfl) rfl (fun _ _ _ h => h) (op_build (is := [0, 1]) (xs := [.tmp 121, .tmp 122]) (v := .agg #[.slice oQ ((stepsI atoms.length rs).1.length - 1) cQ, .slice oH (holdsI atoms.length rs (stepsI atoms.length rs).2).length cH]) rfl rfl (fun w => by kernel_rfl)) rfl ?_
            refine al_step (i := 8) rfl (by kernel_rfl) rfl (op_call_fr hS cf_14 rfl (judge_Check_c _ _ hS.hold _ _ atoms rs (h1.mono EAtom.mono hS.le) (h2.mono ERule.mono hS.le) hP _ _ ((stepsI atoms.length rs).1.take ((stepsI atoms.length rs).1.length - 1)) (holdsI atoms.length rs (stepsI atoms.length rs).2) hcut3 hH)) ?_
            clear hS
            rintro v124 w ⟨F124, G124, hR124, hF124, hf124, hl124, hS⟩
            obtain ⟨vm124, hv, _⟩ := hR124
            rw [strict4 hbt (by omega)] at hv
            simp only [Option.isSome_none] at hv
            subst hv
            replace hL := hL.mono EStep.mono hl124
            replace hH := hH.mono EInt.mono hl124
            refine ⟨no_need (by kernel_rfl), ?_⟩
            -- r19.9 t115 := move  t124
            refine al_take (i := 9) rfl (by kernel_rfl) (by kernel_rfl) (by kernel_rfl) rfl (fun _ _ _ h => h) (op_move rfl) rfl ?_
            -- r19.10 t125 := extract [0] t115
            refine al_take (i := 10) rfl (by kernel_rfl) (by kernel_rfl) (by kernel_rfl) rfl (fun _ _ _ h => h) (op_extract (vs := [vm124, .bool false]) rfl rfl) rfl ?_
            -- r19.11 t126 := extract [1] t115
            refine al_take (i := 11) rfl (by kernel_rfl) (by kernel_rfl) (by kernel_rfl) rfl (fun _ _ _ h => h) (op_extract (vs := [vm124, .bool false]) rfl rfl) rfl ?_
            -- r19.12 t20 := assign  t125
            refine al_take (i := 12) rfl (by kernel_rfl) (by kernel_rfl) (by kernel_rfl) rfl (fun _ _ _ h => h) (op_assign rfl) rfl ?_
            -- r19.13 t21 := assign  t126
            refine al_take (i := 13) rfl (by kernel_rfl) (by kernel_rfl) (by kernel_rfl) rfl (fun _ _ _ h => h) (op_assign rfl) rfl ?_
            refine al_done (by kernel_rfl) ?_
            refine pq_then ?_
            refine cw_seq ?_
            refine cw_region ?_
            -- r20.0 t127 := move  t19
            refine ol_pure rfl (op_move rfl) ?_
            -- r20.1 t128 := move  t127
            refine ol_pure rfl (op_move rfl) ?_
            -- r20.2 t129 := move  t21 ?1=False
            refine ol_guard_pure rfl rfl rfl (op_move rfl) ?_
            -- r20.3 t130 := pick  t128 Ctrue t129
            refine ol_pure rfl (op_pick_f rfl rfl) ?_
            refine ol_nil ?_
            refine pq_then ?_
            refine cw_cond_f rfl ?_
            refine cw_skip ?_
            refine pq_then ?_
            refine cw_seq ?_
            refine cw_region ?_
            -- r22.0 t131 := move  t5
            refine ol_pure rfl (op_move rfl) ?_
            -- r22.1 t4 := assign  t131
            refine ol_pure rfl (op_assign rfl) ?_
            refine ol_nil ?_
            refine pq_then ?_
            refine cw_ret ?_
            refine ret1 rfl rfl ?_
            -- ret5 h25f h47t o9 h93t o8
            exact hS.sc_b rfl
        · skip
          try simp only [decide_eq_true_eq, decide_eq_false_iff_not, Bool.not_eq_true', Bool.not_eq_false', Bool.not_eq_eq_eq_not, Bool.not_true, Bool.not_false] at h93
          refine cw_skip ?_
          refine pq_then ?_
          refine cw_seq ?_
          refine cw_region ?_
          -- r22.0 t131 := move  t5
          refine ol_pure rfl (op_move rfl) ?_
          -- r22.1 t4 := assign  t131
          refine ol_pure rfl (op_assign rfl) ?_
          refine ol_nil ?_
          refine pq_then ?_
          refine cw_ret ?_
          refine ret1 rfl rfl ?_
          -- ret5 h25f h47t o9 h93f
          exact hS.sc_b rfl
    · skip
      try simp only [decide_eq_true_eq, decide_eq_false_iff_not, Bool.not_eq_true', Bool.not_eq_false', Bool.not_eq_eq_eq_not, Bool.not_true, Bool.not_false] at h47
      refine cw_skip ?_
      refine pq_then ?_
      refine cw_seq ?_
      refine cw_seq ?_
      refine cw_region ?_
      -- r16.0 t91 := move  t6
      refine ol_pure rfl (op_move rfl) ?_
      -- r16.1 t92 := call len t91
      refine ol_pure rfl (op_len sl_28 rfl rfl) ?_
      -- r16.2 t93 := gtr t92 C0
      refine ol_pure rfl (op_gtr rfl rfl) ?_
      refine ol_nil ?_
      refine pq_then ?_
      refine cw_cond rfl (fun h93 => ?_) (fun h93 => ?_)
      · skip
        try simp only [decide_eq_true_eq, decide_eq_false_iff_not, Bool.not_eq_true', Bool.not_eq_false', Bool.not_eq_eq_eq_not, Bool.not_true, Bool.not_false] at h93
        obtain ⟨jj, hjj⟩ := Int.eq_ofNat_of_zero_le (Int.emod_nonneg z (show (((stepsI atoms.length rs).1.length : Nat) : Int) ≠ 0 by omega))
        have hjl := Int.emod_lt_of_pos z (show (0 : Int) < ((stepsI atoms.length rs).1.length : Nat) by omega)
        have hlj : jj < (stepsI atoms.length rs).1.length := by omega
        obtain ⟨us, hus, hone, hcs⟩ := hL.cells EStep.one
        obtain ⟨hoL, _, _, ⟨va9, rfl, hva, hsb⟩, hcells⟩ := hL.el hlj
        obtain ⟨oV, cV, rfl, _, _⟩ := hva.elim
        refine cw_seq ?_
        refine cw_region ?_
        -- r17.0 t94 := move  t1
        refine ol_pure rfl (op_move rfl) ?_
        -- r17.1 t95 := convert [5, 3] t94
        refine ol_pure rfl (op_conv ⟨_, Try.underlying5⟩ Try.underlying3 rfl (wrap_u8 hz)) ?_
        -- r17.2 t96 := move  t6
        refine ol_pure rfl (op_move rfl) ?_
        -- r17.3 t97 := call len t96
        refine ol_pure rfl (op_len sl_28 rfl rfl) ?_
        -- r17.4 t98 := rem t95 t97
        refine ol_pure rfl (op_val (op_rem rfl rfl (by omega) (by omega)) (congrArg (Value.int .i64) hjj)) ?_
        -- r17.5 t17 := assign  t98
        refine ol_pure rfl (op_assign rfl) ?_
        refine ol_nil ?_
        refine pq_then ?_
        refine cw_seq ?_
        refine al_start' hS (hS.take 1) (by kernel_rfl) rfl (fun w hS hT => ?_)
        -- r18.0 t100 := load [25] t2
        refine al_load (i := 0) rfl (by kernel_rfl) (by kernel_rfl) (by kernel_rfl) rfl (fun _ _ _ h => h) (by exact op_loadN agg_25 rfl (by rfl) (fun w hw k u hk => (hw.bcell (i := 0) rfl).trans hk)) rfl hT ?_
        -- r18.2 t102 := move  t6
        refine al_take (i := 2) rfl (by kernel_rfl) (by kernel_rfl) (by kernel_rfl) rfl (fun _ _ _ h => h) (op_move rfl) rfl ?_
        -- r18.4 t104 := move  t6
        refine al_take (i := 4) rfl (by kernel_rfl) (by kernel_rfl) (by kernel_rfl) rfl (fun _ _ _ h => h) (op_move rfl) rfl ?_
        -- r18.5 t105 := move  t17
        refine al_take (i := 5) rfl (by kernel_rfl) (by kernel_rfl) (by kernel_rfl) rfl (fun _ _ _ h => h) (op_move rfl) rfl ?_
        -- r18.6 t106 := indexAddr [28] t104 t105
        refine al_take (i := 6) rfl (by kernel_rfl) (by kernel_rfl) (by kernel_rfl) rfl (fun _ _ _ h => h) (op_indexN sl_28 rfl rfl (by omega) hoL) rfl ?_
        -- r18.7 t107 := load [44] t106
        refine al_load (i := 7) rfl (by kernel_rfl) (by kernel_rfl) (by kernel_rfl) rfl (fun _ _ _ h => h) (by exact op_loadN agg_44 rfl (by rfl) (fun w hw k u hk => hw.gcell (hcells k u hk))) rfl hT ?_
        -- r18.10 t110 := move  t8
        refine al_take (i := 10) rfl (by kernel_rfl) (by kernel_rfl) (by kernel_rfl) rfl (fun _ _ _ h => h) (op_move rfl) rfl ?_
        refine al_two (i := 1) (j := 8) (by kernel_rfl) (fun a ha => ?_) (fun a ha => ?_)
        · skip
          refine wpOp_of_opk (i := 1) rfl ha (op_buildSlice (el := 44) (is := []) (xs := []) (sz := 2) (cs := []) hS rfl rfl (fun w => by kernel_rfl) rfl (by decide)) ?_
          clear hS
          rintro _ w ⟨s101, rfl, hS⟩
          have hT := hT.back hS (by first | exact Le.refl _ | assumption) (fun x hx => by try simp only [List.take_succ_cons, List.take_zero, List.mem_cons, List.not_mem_nil, or_false] at hx; (rcases hx with rfl) <;> simp)
          refine ⟨fun _ _ => hT, ?_⟩
          refine al_at ?_ (ha.put (blt_lt rfl) _)
          refine al_two (i := 3) (j := 8) (by kernel_rfl) (fun a ha => ?_) (fun a ha => ?_)
          · skip
            refine wpOp_of_opk (i := 3) rfl ha (op_append (j := 0) (m := (stepsI atoms.length rs).1.length) (news := us) hS sl_28 el_44 rfl rfl rfl rfl rfl hus.1 (by decide) (fun k u hu => ⟨(hcs k u hu).1, hS.hold.cell (hcs k u hu).2⟩) hone (by omega) (by unfold maxLen; omega)) ?_
            clear hS
            rintro _ w ⟨s101n, c_s101n, rfl, hS⟩; (try simp only [List.nil_append, List.cons_append, List.set] at hS)
            have hT := hT.back hS (by first | exact Le.refl _ | assumption) (fun x hx => by try simp only [List.take_succ_cons, List.take_zero, List.mem_cons, List.not_mem_nil, or_false] at hx; (rcases hx with rfl) <;> simp)
            refine ⟨fun _ _ => hT, ?_⟩
            refine al_at ?_ (ha.put (blt_lt rfl) _)
            refine al_step (i := 8) rfl (by kernel_rfl) rfl (op_buildSlice (el := 44) (is := [0]) (xs := [.tmp 107]) (sz := 2) (cs := [.int .i64 (stepsI atoms.length rs).1[jj].rule, .slice oV (stepsI atoms.length rs).1[jj].atoms.length cV]) hS rfl rfl (fun w => by kernel_rfl) rfl (by decide)) ?_
            clear hS
            rintro _ w ⟨s108, rfl, hS⟩
            have hT := hT.back hS (by first | exact Le.refl _ | assumption) (fun x hx => by try simp only [List.take_succ_cons, List.take_zero, List.mem_cons, List.not_mem_nil, or_false] at hx; (rcases hx with rfl) <;> simp)
            refine ⟨fun _ _ => hT, ?_⟩
            refine al_step (i := 9) rfl (by kernel_rfl) rfl (op_append (j := 1) hS sl_28 el_44 rfl rfl rfl rfl rfl rfl (by decide) (hS.news (j := 0) rfl) (by simp [Value.oneCell']) (by omega) (by unfold maxLen; omega)) ?_
            clear hS
            rintro _ w ⟨s101nn, c_s101nn, rfl, hS⟩; (try simp only [List.nil_append, List.cons_append, List.set] at hS); replace hS := SS.drop [] hS; (try simp only [List.nil_append, List.cons_append] at hS)
            have hL8 := hL
            obtain ⟨G9, hl9, hS2, hL9b⟩ := SS.give' ((stepsI atoms.length rs).1 ++ [(stepsI atoms.length rs).1[jj]]) [] EStep.mono hS (by decide) (by exact (hus.snoc (x := (stepsI atoms.length rs).1[jj]) (cs := [.int .i64 (stepsI atoms.length rs).1[jj].rule, .slice oV (stepsI atoms.length rs).1[jj].atoms.length cV]) rfl ⟨_, rfl, hva, hsb⟩)) (by simp)
            clear hS
            have hS := hS2
            clear hS2
            (try simp only [List.nil_append, List.cons_append] at hS)
            replace hL := hL.mono EStep.mono hl9
            replace hH := hH.mono EInt.mono hl9
            have hT := hT.back hS (by first | exact Le.refl _ | assumption) (fun x hx => by try simp only [List.take_succ_cons, List.take_zero, List.mem_cons, List.not_mem_nil, or_false] at hx; (rcases hx with rfl) <;> simp)
            refine ⟨fun _ _ => hT, ?_⟩
            -- r18.11 t111 := build [31] 0:t109 1:t110
            refine al_take (i := 11) rfl (by kernel_rfl) (by kernel_rfl) (by kernel_rfl) rfl (fun _ _ _ h => h) (op_build (is := [0, 1]) (xs := [.tmp 109, .tmp 110]) (v := .agg #[.slice s101nn (0 + (stepsI atoms.length rs).1.length + 1) c_s101nn, .slice oH (holdsI atoms.length rs (stepsI atoms.length rs).2).length cH]) rfl rfl (fun w => by kernel_rfl)) rfl ?_
            refine al_step (i := 12) rfl (by kernel_rfl) rfl (op_call_fr hS cf_14 rfl (judge_Check_c _ _ hS.hold _ _ atoms rs (h1.mono EAtom.mono hS.le) (h2.mono ERule.mono hS.le) hP _ _ ((stepsI atoms.length rs).1 ++ [(stepsI atoms.length rs).1[jj]]) (holdsI atoms.length rs (stepsI atoms.length rs).2) hL9b hH)) ?_
            clear hS
            rintro v112 w ⟨F112, G112, hR112, hF112, hf112, hl112, hS⟩
            obtain ⟨vm112, hv, _⟩ := hR112
            rw [strict3 hbt hlj] at hv
            simp only [Option.isSome_none] at hv
            subst hv
            replace hL := hL.mono EStep.mono hl112
            replace hH := hH.mono EInt.mono hl112
            have hx112 := hl9.trans hl112
            have hT := hT.back hS (by first | exact Le.refl _ | assumption) (fun x hx => by try simp only [List.take_succ_cons, List.take_zero, List.mem_cons, List.not_mem_nil, or_false] at hx; (rcases hx with rfl) <;> simp)
            refine ⟨fun _ _ => hT, ?_⟩
            -- r18.13 t99 := move  t112
            refine al_take (i := 13) rfl (by kernel_rfl) (by kernel_rfl) (by kernel_rfl) rfl (fun _ _ _ h => h) (op_move rfl) rfl ?_
            -- r18.14 t113 := extract [0] t99
            refine al_take (i := 14) rfl (by kernel_rfl) (by kernel_rfl) (by kernel_rfl) rfl (fun _ _ _ h => h) (op_extract (vs := [vm112, .bool false]) rfl rfl) rfl ?_
            -- r18.15 t114 := extract [1] t99
            refine al_take (i := 15) rfl (by kernel_rfl) (by kernel_rfl) (by kernel_rfl) rfl (fun _ _ _ h => h) (op_extract (vs := [vm112, .bool false]) rfl rfl) rfl ?_
            -- r18.16 t18 := assign  t113
            refine al_take (i := 16) rfl (by kernel_rfl) (by kernel_rfl) (by kernel_rfl) rfl (fun _ _ _ h => h) (op_assign rfl) rfl ?_
            -- r18.17 t19 := assign  t114
            refine al_take (i := 17) rfl (by kernel_rfl) (by kernel_rfl) (by kernel_rfl) rfl (fun _ _ _ h => h) (op_assign rfl) rfl ?_
            refine al_done (by kernel_rfl) ?_
            refine pq_then ?_
            refine cw_seq ?_
            refine al_start' hS (hS.take 1) (by kernel_rfl) rfl (fun w hS hT => ?_)
            -- r19.0 t116 := load [25] t2
            refine al_load (i := 0) rfl (by kernel_rfl) (by kernel_rfl) (by kernel_rfl) rfl (fun _ _ _ h => h) (by exact op_loadN agg_25 rfl (by rfl) (fun w hw k u hk => (hw.bcell (i := 0) rfl).trans hk)) rfl hT ?_
            -- r19.1 t117 := move  t6
            refine al_take (i := 1) rfl (by kernel_rfl) (by kernel_rfl) (by kernel_rfl) rfl (fun _ _ _ h => h) (op_move rfl) rfl ?_
            -- r19.2 t118 := move  t6
            refine al_take (i := 2) rfl (by kernel_rfl) (by kernel_rfl) (by kernel_rfl) rfl (fun _ _ _ h => h) (op_move rfl) rfl ?_
            -- r19.3 t119 := call len t118
            refine al_take (i := 3) rfl (by kernel_rfl) (by kernel_rfl) (by kernel_rfl) rfl (fun _ _ _ h => h) (op_len sl_28 rfl rfl) rfl ?_
            -- r19.4 t120 := sub t119 C1
            refine al_take (i := 4) rfl (by kernel_rfl) (by kernel_rfl) (by kernel_rfl) rfl (fun _ _ _ h => h) (op_val (op_sub rfl rfl (by omega) (by omega)) (v' := .int .i64 (((stepsI atoms.length rs).1.length - 1 : Nat) : Int)) (congrArg (Value.int .i64) (by omega))) rfl ?_
            -- r19.5 t121 := slice t117 [:t120:]
            have hcut3 := hL.cut (lo := 0) (hi := (stepsI atoms.length rs).1.length - 1) (Nat.zero_le _) (by omega)
            obtain ⟨oQ, cQ, hQ, _, _⟩ := hcut3.elimN (n := (stepsI atoms.length rs).1.length - 1) (by simp)
            rw [hQ, List.drop_zero] at hcut3
            refine al_take (i := 5) rfl (by kernel_rfl) (by kernel_rfl) (by kernel_rfl) rfl (fun _ _ _ h => h) (op_val (op_slice_h (h := (stepsI atoms.length rs).1.length - 1) sl_28 rfl rfl (by omega)) hQ) rfl ?_
            -- r19.6 t122 := move  t8
            refine al_take (i := 6) rfl (by kernel_rfl) (by kernel_rfl) (by kernel_rfl) rfl (fun _ _ _ h => h) (op_move rfl) rfl ?_
            -- r19.7 t123 := build [31] 0:t121 1:t122
            refine al_take (i := 7) rfl (by kernel_rfl) (by kernel_rfl) (by kernel_rfl) rfl (fun _ _ _ h => h) (op_build (is := [0, 1]) (xs := [.tmp 121, .tmp 122]) (v := .agg #[.slice oQ ((stepsI atoms.length rs).1.length - 1) cQ, .slice oH (holdsI atoms.length rs (stepsI atoms.length rs).2).length cH]) rfl rfl (fun w => by kernel_rfl)) rfl ?_
            refine al_step (i := 8) rfl (by kernel_rfl) rfl (op_call_fr hS cf_14 rfl (judge_Check_c _ _ hS.hold _ _ atoms rs (h1.mono EAtom.mono hS.le) (h2.mono ERule.mono hS.le) hP _ _ ((stepsI atoms.length rs).1.take ((stepsI atoms.length rs).1.length - 1)) (holdsI atoms.length rs (stepsI atoms.length rs).2) hcut3 hH)) ?_
            clear hS
            rintro v124 w ⟨F124, G124, hR124, hF124, hf124, hl124, hS⟩
            obtain ⟨vm124, hv, _⟩ := hR124
            rw [strict4 hbt (by omega)] at hv
            simp only [Option.isSome_none] at hv
            subst hv
            replace hL := hL.mono EStep.mono hl124
            replace hH := hH.mono EInt.mono hl124
            refine ⟨no_need (by kernel_rfl), ?_⟩
            -- r19.9 t115 := move  t124
            refine al_take (i := 9) rfl (by kernel_rfl) (by kernel_rfl) (by kernel_rfl) rfl (fun _ _ _ h => h) (op_move rfl) rfl ?_
            -- r19.10 t125 := extract [0] t115
            refine al_take (i := 10) rfl (by kernel_rfl) (by kernel_rfl) (by kernel_rfl) rfl (fun _ _ _ h => h) (op_extract (vs := [vm124, .bool false]) rfl rfl) rfl ?_
            -- r19.11 t126 := extract [1] t115
            refine al_take (i := 11) rfl (by kernel_rfl) (by kernel_rfl) (by kernel_rfl) rfl (fun _ _ _ h => h) (op_extract (vs := [vm124, .bool false]) rfl rfl) rfl ?_
            -- r19.12 t20 := assign  t125
            refine al_take (i := 12) rfl (by kernel_rfl) (by kernel_rfl) (by kernel_rfl) rfl (fun _ _ _ h => h) (op_assign rfl) rfl ?_
            -- r19.13 t21 := assign  t126
            refine al_take (i := 13) rfl (by kernel_rfl) (by kernel_rfl) (by kernel_rfl) rfl (fun _ _ _ h => h) (op_assign rfl) rfl ?_
            refine al_done (by kernel_rfl) ?_
            refine pq_then ?_
            refine cw_seq ?_
            refine cw_region ?_
            -- r20.0 t127 := move  t19
            refine ol_pure rfl (op_move rfl) ?_
            -- r20.1 t128 := move  t127
            refine ol_pure rfl (op_move rfl) ?_
            -- r20.2 t129 := move  t21 ?1=False
            refine ol_guard_pure rfl rfl rfl (op_move rfl) ?_
            -- r20.3 t130 := pick  t128 Ctrue t129
            refine ol_pure rfl (op_pick_f rfl rfl) ?_
            refine ol_nil ?_
            refine pq_then ?_
            refine cw_cond_f rfl ?_
            refine cw_skip ?_
            refine pq_then ?_
            refine cw_seq ?_
            refine cw_region ?_
            -- r22.0 t131 := move  t5
            refine ol_pure rfl (op_move rfl) ?_
            -- r22.1 t4 := assign  t131
            refine ol_pure rfl (op_assign rfl) ?_
            refine ol_nil ?_
            refine pq_then ?_
            refine cw_ret ?_
            refine ret1 rfl rfl ?_
            -- ret5 h25f h47f h93t o1 o3
            exact hS.sc_b rfl
          · skip
            refine wpOp_of_opk (i := 8) rfl ha (op_buildSlice (el := 44) (is := [0]) (xs := [.tmp 107]) (sz := 2) (cs := [.int .i64 (stepsI atoms.length rs).1[jj].rule, .slice oV (stepsI atoms.length rs).1[jj].atoms.length cV]) hS rfl rfl (fun w => by kernel_rfl) rfl (by decide)) ?_
            clear hS
            rintro _ w ⟨s108, rfl, hS⟩
            have hT := hT.back hS (by first | exact Le.refl _ | assumption) (fun x hx => by try simp only [List.take_succ_cons, List.take_zero, List.mem_cons, List.not_mem_nil, or_false] at hx; (rcases hx with rfl) <;> simp)
            refine ⟨fun _ _ => hT, ?_⟩
            refine al_at ?_ (ha.put (blt_lt rfl) _)
            refine al_step (i := 3) rfl (by kernel_rfl) rfl (op_append (j := 1) (m := (stepsI atoms.length rs).1.length) (news := us) hS sl_28 el_44 rfl rfl rfl rfl rfl hus.1 (by decide) (fun k u hu => ⟨(hcs k u hu).1, hS.hold.cell (hcs k u hu).2⟩) hone (by omega) (by unfold maxLen; omega)) ?_
            clear hS
            rintro _ w ⟨s101n, c_s101n, rfl, hS⟩; (try simp only [List.nil_append, List.cons_append, List.set] at hS)
            have hT := hT.back hS (by first | exact Le.refl _ | assumption) (fun x hx => by try simp only [List.take_succ_cons, List.take_zero, List.mem_cons, List.not_mem_nil, or_false] at hx; (rcases hx with rfl) <;> simp)
            refine ⟨fun _ _ => hT, ?_⟩
            refine al_step (i := 9) rfl (by kernel_rfl) rfl (op_append (j := 1) hS sl_28 el_44 rfl rfl rfl rfl rfl rfl (by decide) (hS.news (j := 0) rfl) (by simp [Value.oneCell']) (by omega) (by unfold maxLen; omega)) ?_
            clear hS
            rintro _ w ⟨s101nn, c_s101nn, rfl, hS⟩; (try simp only [List.nil_append, List.cons_append, List.set] at hS); replace hS := SS.drop [] hS; (try simp only [List.nil_append, List.cons_append] at hS)
            have hL8 := hL
            obtain ⟨G9, hl9, hS2, hL9b⟩ := SS.give' ((stepsI atoms.length rs).1 ++ [(stepsI atoms.length rs).1[jj]]) [] EStep.mono hS (by decide) (by exact (hus.snoc (x := (stepsI atoms.length rs).1[jj]) (cs := [.int .i64 (stepsI atoms.length rs).1[jj].rule, .slice oV (stepsI atoms.length rs).1[jj].atoms.length cV]) rfl ⟨_, rfl, hva, hsb⟩)) (by simp)
            clear hS
            have hS := hS2
            clear hS2
            (try simp only [List.nil_append, List.cons_append] at hS)
            replace hL := hL.mono EStep.mono hl9
            replace hH := hH.mono EInt.mono hl9
            have hT := hT.back hS (by first | exact Le.refl _ | assumption) (fun x hx => by try simp only [List.take_succ_cons, List.take_zero, List.mem_cons, List.not_mem_nil, or_false] at hx; (rcases hx with rfl) <;> simp)
            refine ⟨fun _ _ => hT, ?_⟩
            -- r18.11 t111 := build [31] 0:t109 1:t110
            refine al_take (i := 11) rfl (by kernel_rfl) (by kernel_rfl) (by kernel_rfl) rfl (fun _ _ _ h => h) (op_build (is := [0, 1]) (xs := [.tmp 109, .tmp 110]) (v := .agg #[.slice s101nn (0 + (stepsI atoms.length rs).1.length + 1) c_s101nn, .slice oH (holdsI atoms.length rs (stepsI atoms.length rs).2).length cH]) rfl rfl (fun w => by kernel_rfl)) rfl ?_
            refine al_step (i := 12) rfl (by kernel_rfl) rfl (op_call_fr hS cf_14 rfl (judge_Check_c _ _ hS.hold _ _ atoms rs (h1.mono EAtom.mono hS.le) (h2.mono ERule.mono hS.le) hP _ _ ((stepsI atoms.length rs).1 ++ [(stepsI atoms.length rs).1[jj]]) (holdsI atoms.length rs (stepsI atoms.length rs).2) hL9b hH)) ?_
            clear hS
            rintro v112 w ⟨F112, G112, hR112, hF112, hf112, hl112, hS⟩
            obtain ⟨vm112, hv, _⟩ := hR112
            rw [strict3 hbt hlj] at hv
            simp only [Option.isSome_none] at hv
            subst hv
            replace hL := hL.mono EStep.mono hl112
            replace hH := hH.mono EInt.mono hl112
            have hx112 := hl9.trans hl112
            have hT := hT.back hS (by first | exact Le.refl _ | assumption) (fun x hx => by try simp only [List.take_succ_cons, List.take_zero, List.mem_cons, List.not_mem_nil, or_false] at hx; (rcases hx with rfl) <;> simp)
            refine ⟨fun _ _ => hT, ?_⟩
            -- r18.13 t99 := move  t112
            refine al_take (i := 13) rfl (by kernel_rfl) (by kernel_rfl) (by kernel_rfl) rfl (fun _ _ _ h => h) (op_move rfl) rfl ?_
            -- r18.14 t113 := extract [0] t99
            refine al_take (i := 14) rfl (by kernel_rfl) (by kernel_rfl) (by kernel_rfl) rfl (fun _ _ _ h => h) (op_extract (vs := [vm112, .bool false]) rfl rfl) rfl ?_
            -- r18.15 t114 := extract [1] t99
            refine al_take (i := 15) rfl (by kernel_rfl) (by kernel_rfl) (by kernel_rfl) rfl (fun _ _ _ h => h) (op_extract (vs := [vm112, .bool false]) rfl rfl) rfl ?_
            -- r18.16 t18 := assign  t113
            refine al_take (i := 16) rfl (by kernel_rfl) (by kernel_rfl) (by kernel_rfl) rfl (fun _ _ _ h => h) (op_assign rfl) rfl ?_
            -- r18.17 t19 := assign  t114
            refine al_take (i := 17) rfl (by kernel_rfl) (by kernel_rfl) (by kernel_rfl) rfl (fun _ _ _ h => h) (op_assign rfl) rfl ?_
            refine al_done (by kernel_rfl) ?_
            refine pq_then ?_
            refine cw_seq ?_
            refine al_start' hS (hS.take 1) (by kernel_rfl) rfl (fun w hS hT => ?_)
            -- r19.0 t116 := load [25] t2
            refine al_load (i := 0) rfl (by kernel_rfl) (by kernel_rfl) (by kernel_rfl) rfl (fun _ _ _ h => h) (by exact op_loadN agg_25 rfl (by rfl) (fun w hw k u hk => (hw.bcell (i := 0) rfl).trans hk)) rfl hT ?_
            -- r19.1 t117 := move  t6
            refine al_take (i := 1) rfl (by kernel_rfl) (by kernel_rfl) (by kernel_rfl) rfl (fun _ _ _ h => h) (op_move rfl) rfl ?_
            -- r19.2 t118 := move  t6
            refine al_take (i := 2) rfl (by kernel_rfl) (by kernel_rfl) (by kernel_rfl) rfl (fun _ _ _ h => h) (op_move rfl) rfl ?_
            -- r19.3 t119 := call len t118
            refine al_take (i := 3) rfl (by kernel_rfl) (by kernel_rfl) (by kernel_rfl) rfl (fun _ _ _ h => h) (op_len sl_28 rfl rfl) rfl ?_
            -- r19.4 t120 := sub t119 C1
            refine al_take (i := 4) rfl (by kernel_rfl) (by kernel_rfl) (by kernel_rfl) rfl (fun _ _ _ h => h) (op_val (op_sub rfl rfl (by omega) (by omega)) (v' := .int .i64 (((stepsI atoms.length rs).1.length - 1 : Nat) : Int)) (congrArg (Value.int .i64) (by omega))) rfl ?_
            -- r19.5 t121 := slice t117 [:t120:]
            have hcut3 := hL.cut (lo := 0) (hi := (stepsI atoms.length rs).1.length - 1) (Nat.zero_le _) (by omega)
            obtain ⟨oQ, cQ, hQ, _, _⟩ := hcut3.elimN (n := (stepsI atoms.length rs).1.length - 1) (by simp)
            rw [hQ, List.drop_zero] at hcut3
            refine al_take (i := 5) rfl (by kernel_rfl) (by kernel_rfl) (by kernel_rfl) rfl (fun _ _ _ h => h) (op_val (op_slice_h (h := (stepsI atoms.length rs).1.length - 1) sl_28 rfl rfl (by omega)) hQ) rfl ?_
            -- r19.6 t122 := move  t8
            refine al_take (i := 6) rfl (by kernel_rfl) (by kernel_rfl) (by kernel_rfl) rfl (fun _ _ _ h => h) (op_move rfl) rfl ?_
            -- r19.7 t123 := build [31] 0:t121 1:t122
            refine al_take (i := 7) rfl (by kernel_rfl) (by kernel_rfl) (by kernel_rfl) rfl (fun _ _ _ h => h) (op_build (is := [0, 1]) (xs := [.tmp 121, .tmp 122]) (v := .agg #[.slice oQ ((stepsI atoms.length rs).1.length - 1) cQ, .slice oH (holdsI atoms.length rs (stepsI atoms.length rs).2).length cH]) rfl rfl (fun w => by kernel_rfl)) rfl ?_
            refine al_step (i := 8) rfl (by kernel_rfl) rfl (op_call_fr hS cf_14 rfl (judge_Check_c _ _ hS.hold _ _ atoms rs (h1.mono EAtom.mono hS.le) (h2.mono ERule.mono hS.le) hP _ _ ((stepsI atoms.length rs).1.take ((stepsI atoms.length rs).1.length - 1)) (holdsI atoms.length rs (stepsI atoms.length rs).2) hcut3 hH)) ?_
            clear hS
            rintro v124 w ⟨F124, G124, hR124, hF124, hf124, hl124, hS⟩
            obtain ⟨vm124, hv, _⟩ := hR124
            rw [strict4 hbt (by omega)] at hv
            simp only [Option.isSome_none] at hv
            subst hv
            replace hL := hL.mono EStep.mono hl124
            replace hH := hH.mono EInt.mono hl124
            refine ⟨no_need (by kernel_rfl), ?_⟩
            -- r19.9 t115 := move  t124
            refine al_take (i := 9) rfl (by kernel_rfl) (by kernel_rfl) (by kernel_rfl) rfl (fun _ _ _ h => h) (op_move rfl) rfl ?_
            -- r19.10 t125 := extract [0] t115
            refine al_take (i := 10) rfl (by kernel_rfl) (by kernel_rfl) (by kernel_rfl) rfl (fun _ _ _ h => h) (op_extract (vs := [vm124, .bool false]) rfl rfl) rfl ?_
            -- r19.11 t126 := extract [1] t115
            refine al_take (i := 11) rfl (by kernel_rfl) (by kernel_rfl) (by kernel_rfl) rfl (fun _ _ _ h => h) (op_extract (vs := [vm124, .bool false]) rfl rfl) rfl ?_
            -- r19.12 t20 := assign  t125
            refine al_take (i := 12) rfl (by kernel_rfl) (by kernel_rfl) (by kernel_rfl) rfl (fun _ _ _ h => h) (op_assign rfl) rfl ?_
            -- r19.13 t21 := assign  t126
            refine al_take (i := 13) rfl (by kernel_rfl) (by kernel_rfl) (by kernel_rfl) rfl (fun _ _ _ h => h) (op_assign rfl) rfl ?_
            refine al_done (by kernel_rfl) ?_
            refine pq_then ?_
            refine cw_seq ?_
            refine cw_region ?_
            -- r20.0 t127 := move  t19
            refine ol_pure rfl (op_move rfl) ?_
            -- r20.1 t128 := move  t127
            refine ol_pure rfl (op_move rfl) ?_
            -- r20.2 t129 := move  t21 ?1=False
            refine ol_guard_pure rfl rfl rfl (op_move rfl) ?_
            -- r20.3 t130 := pick  t128 Ctrue t129
            refine ol_pure rfl (op_pick_f rfl rfl) ?_
            refine ol_nil ?_
            refine pq_then ?_
            refine cw_cond_f rfl ?_
            refine cw_skip ?_
            refine pq_then ?_
            refine cw_seq ?_
            refine cw_region ?_
            -- r22.0 t131 := move  t5
            refine ol_pure rfl (op_move rfl) ?_
            -- r22.1 t4 := assign  t131
            refine ol_pure rfl (op_assign rfl) ?_
            refine ol_nil ?_
            refine pq_then ?_
            refine cw_ret ?_
            refine ret1 rfl rfl ?_
            -- ret5 h25f h47f h93t o1 o8
            exact hS.sc_b rfl
        · skip
          refine wpOp_of_opk (i := 8) rfl ha (op_buildSlice (el := 44) (is := [0]) (xs := [.tmp 107]) (sz := 2) (cs := [.int .i64 (stepsI atoms.length rs).1[jj].rule, .slice oV (stepsI atoms.length rs).1[jj].atoms.length cV]) hS rfl rfl (fun w => by kernel_rfl) rfl (by decide)) ?_
          clear hS
          rintro _ w ⟨s108, rfl, hS⟩
          have hT := hT.back hS (by first | exact Le.refl _ | assumption) (fun x hx => by try simp only [List.take_succ_cons, List.take_zero, List.mem_cons, List.not_mem_nil, or_false] at hx; (rcases hx with rfl) <;> simp)
          refine ⟨fun _ _ => hT, ?_⟩
          refine al_at ?_ (ha.put (blt_lt rfl) _)
          refine al_step (i := 1) rfl (by kernel_rfl) rfl (op_buildSlice (el := 44) (is := []) (xs := []) (sz := 2) (cs := []) hS rfl rfl (fun w => by kernel_rfl) rfl (by decide)) ?_
          clear hS
          rintro _ w ⟨s101, rfl, hS⟩
          have hT := hT.back hS (by first | exact Le.refl _ | assumption) (fun x hx => by try simp only [List.take_succ_cons, List.take_zero, List.mem_cons, List.not_mem_nil, or_false] at hx; (rcases hx with rfl) <;> simp)
          refine ⟨fun _ _ => hT, ?_⟩
          refine al_step (i := 3) rfl (by kernel_rfl) rfl (op_append (j := 0) (m := (stepsI atoms.length rs).1.length) (news := us) hS sl_28 el_44 rfl rfl rfl rfl rfl hus.1 (by decide) (fun k u hu => ⟨(hcs k u hu).1, hS.hold.cell (hcs k u hu).2⟩) hone (by omega) (by unfold maxLen; omega)) ?_
          clear hS
          rintro _ w ⟨s101n, c_s101n, rfl, hS⟩; (try simp only [List.nil_append, List.cons_append, List.set] at hS)
          have hT := hT.back hS (by first | exact Le.refl _ | assumption) (fun x hx => by try simp only [List.take_succ_cons, List.take_zero, List.mem_cons, List.not_mem_nil, or_false] at hx; (rcases hx with rfl) <;> simp)
          refine ⟨fun _ _ => hT, ?_⟩
          refine al_step (i := 9) rfl (by kernel_rfl) rfl (op_append (j := 0) hS sl_28 el_44 rfl rfl rfl rfl rfl rfl (by decide) (hS.news (j := 1) rfl) (by simp [Value.oneCell']) (by omega) (by unfold maxLen; omega)) ?_
          clear hS
          rintro _ w ⟨s101nn, c_s101nn, rfl, hS⟩; (try simp only [List.nil_append, List.cons_append, List.set] at hS); replace hS := SS.drop [_] hS; (try simp only [List.nil_append, List.cons_append] at hS)
          have hL8 := hL
          obtain ⟨G9, hl9, hS2, hL9b⟩ := SS.give' ((stepsI atoms.length rs).1 ++ [(stepsI atoms.length rs).1[jj]]) [] EStep.mono hS (by decide) (by exact (hus.snoc (x := (stepsI atoms.length rs).1[jj]) (cs := [.int .i64 (stepsI atoms.length rs).1[jj].rule, .slice oV (stepsI atoms.length rs).1[jj].atoms.length cV]) rfl ⟨_, rfl, hva, hsb⟩)) (by simp)
          clear hS
          have hS := hS2
          clear hS2
          (try simp only [List.nil_append, List.cons_append] at hS)
          replace hL := hL.mono EStep.mono hl9
          replace hH := hH.mono EInt.mono hl9
          have hT := hT.back hS (by first | exact Le.refl _ | assumption) (fun x hx => by try simp only [List.take_succ_cons, List.take_zero, List.mem_cons, List.not_mem_nil, or_false] at hx; (rcases hx with rfl) <;> simp)
          refine ⟨fun _ _ => hT, ?_⟩
          -- r18.11 t111 := build [31] 0:t109 1:t110
          refine al_take (i := 11) rfl (by kernel_rfl) (by kernel_rfl) (by kernel_rfl) rfl (fun _ _ _ h => h) (op_build (is := [0, 1]) (xs := [.tmp 109, .tmp 110]) (v := .agg #[.slice s101nn (0 + (stepsI atoms.length rs).1.length + 1) c_s101nn, .slice oH (holdsI atoms.length rs (stepsI atoms.length rs).2).length cH]) rfl rfl (fun w => by kernel_rfl)) rfl ?_
          refine al_step (i := 12) rfl (by kernel_rfl) rfl (op_call_fr hS cf_14 rfl (judge_Check_c _ _ hS.hold _ _ atoms rs (h1.mono EAtom.mono hS.le) (h2.mono ERule.mono hS.le) hP _ _ ((stepsI atoms.length rs).1 ++ [(stepsI atoms.length rs).1[jj]]) (holdsI atoms.length rs (stepsI atoms.length rs).2) hL9b hH)) ?_
          clear hS
          rintro v112 w ⟨F112, G112, hR112, hF112, hf112, hl112, hS⟩
          obtain ⟨vm112, hv, _⟩ := hR112
          rw [strict3 hbt hlj] at hv
          simp only [Option.isSome_none] at hv
          subst hv
          replace hL := hL.mono EStep.mono hl112
          replace hH := hH.mono EInt.mono hl112
          have hx112 := hl9.trans hl112
          have hT := hT.back hS (by first | exact Le.refl _ | assumption) (fun x hx => by try simp only [List.take_succ_cons, List.take_zero, List.mem_cons, List.not_mem_nil, or_false] at hx; (rcases hx with rfl) <;> simp)
          refine ⟨fun _ _ => hT, ?_⟩
          -- r18.13 t99 := move  t112
          refine al_take (i := 13) rfl (by kernel_rfl) (by kernel_rfl) (by kernel_rfl) rfl (fun _ _ _ h => h) (op_move rfl) rfl ?_
          -- r18.14 t113 := extract [0] t99
          refine al_take (i := 14) rfl (by kernel_rfl) (by kernel_rfl) (by kernel_rfl) rfl (fun _ _ _ h => h) (op_extract (vs := [vm112, .bool false]) rfl rfl) rfl ?_
          -- r18.15 t114 := extract [1] t99
          refine al_take (i := 15) rfl (by kernel_rfl) (by kernel_rfl) (by kernel_rfl) rfl (fun _ _ _ h => h) (op_extract (vs := [vm112, .bool false]) rfl rfl) rfl ?_
          -- r18.16 t18 := assign  t113
          refine al_take (i := 16) rfl (by kernel_rfl) (by kernel_rfl) (by kernel_rfl) rfl (fun _ _ _ h => h) (op_assign rfl) rfl ?_
          -- r18.17 t19 := assign  t114
          refine al_take (i := 17) rfl (by kernel_rfl) (by kernel_rfl) (by kernel_rfl) rfl (fun _ _ _ h => h) (op_assign rfl) rfl ?_
          refine al_done (by kernel_rfl) ?_
          refine pq_then ?_
          refine cw_seq ?_
          refine al_start' hS (hS.take 1) (by kernel_rfl) rfl (fun w hS hT => ?_)
          -- r19.0 t116 := load [25] t2
          refine al_load (i := 0) rfl (by kernel_rfl) (by kernel_rfl) (by kernel_rfl) rfl (fun _ _ _ h => h) (by exact op_loadN agg_25 rfl (by rfl) (fun w hw k u hk => (hw.bcell (i := 0) rfl).trans hk)) rfl hT ?_
          -- r19.1 t117 := move  t6
          refine al_take (i := 1) rfl (by kernel_rfl) (by kernel_rfl) (by kernel_rfl) rfl (fun _ _ _ h => h) (op_move rfl) rfl ?_
          -- r19.2 t118 := move  t6
          refine al_take (i := 2) rfl (by kernel_rfl) (by kernel_rfl) (by kernel_rfl) rfl (fun _ _ _ h => h) (op_move rfl) rfl ?_
          -- r19.3 t119 := call len t118
          refine al_take (i := 3) rfl (by kernel_rfl) (by kernel_rfl) (by kernel_rfl) rfl (fun _ _ _ h => h) (op_len sl_28 rfl rfl) rfl ?_
          -- r19.4 t120 := sub t119 C1
          refine al_take (i := 4) rfl (by kernel_rfl) (by kernel_rfl) (by kernel_rfl) rfl (fun _ _ _ h => h) (op_val (op_sub rfl rfl (by omega) (by omega)) (v' := .int .i64 (((stepsI atoms.length rs).1.length - 1 : Nat) : Int)) (congrArg (Value.int .i64) (by omega))) rfl ?_
          -- r19.5 t121 := slice t117 [:t120:]
          have hcut3 := hL.cut (lo := 0) (hi := (stepsI atoms.length rs).1.length - 1) (Nat.zero_le _) (by omega)
          obtain ⟨oQ, cQ, hQ, _, _⟩ := hcut3.elimN (n := (stepsI atoms.length rs).1.length - 1) (by simp)
          rw [hQ, List.drop_zero] at hcut3
          refine al_take (i := 5) rfl (by kernel_rfl) (by kernel_rfl) (by kernel_rfl) rfl (fun _ _ _ h => h) (op_val (op_slice_h (h := (stepsI atoms.length rs).1.length - 1) sl_28 rfl rfl (by omega)) hQ) rfl ?_
          -- r19.6 t122 := move  t8
          refine al_take (i := 6) rfl (by kernel_rfl) (by kernel_rfl) (by kernel_rfl) rfl (fun _ _ _ h => h) (op_move rfl) rfl ?_
          -- r19.7 t123 := build [31] 0:t121 1:t122
          refine al_take (i := 7) rfl (by kernel_rfl) (by kernel_rfl) (by kernel_rfl) rfl (fun _ _ _ h => h) (op_build (is := [0, 1]) (xs := [.tmp 121, .tmp 122]) (v := .agg #[.slice oQ ((stepsI atoms.length rs).1.length - 1) cQ, .slice oH (holdsI atoms.length rs (stepsI atoms.length rs).2).length cH]) rfl rfl (fun w => by kernel_rfl)) rfl ?_
          refine al_step (i := 8) rfl (by kernel_rfl) rfl (op_call_fr hS cf_14 rfl (judge_Check_c _ _ hS.hold _ _ atoms rs (h1.mono EAtom.mono hS.le) (h2.mono ERule.mono hS.le) hP _ _ ((stepsI atoms.length rs).1.take ((stepsI atoms.length rs).1.length - 1)) (holdsI atoms.length rs (stepsI atoms.length rs).2) hcut3 hH)) ?_
          clear hS
          rintro v124 w ⟨F124, G124, hR124, hF124, hf124, hl124, hS⟩
          obtain ⟨vm124, hv, _⟩ := hR124
          rw [strict4 hbt (by omega)] at hv
          simp only [Option.isSome_none] at hv
          subst hv
          replace hL := hL.mono EStep.mono hl124
          replace hH := hH.mono EInt.mono hl124
          refine ⟨no_need (by kernel_rfl), ?_⟩
          -- r19.9 t115 := move  t124
          refine al_take (i := 9) rfl (by kernel_rfl) (by kernel_rfl) (by kernel_rfl) rfl (fun _ _ _ h => h) (op_move rfl) rfl ?_
          -- r19.10 t125 := extract [0] t115
          refine al_take (i := 10) rfl (by kernel_rfl) (by kernel_rfl) (by kernel_rfl) rfl (fun _ _ _ h => h) (op_extract (vs := [vm124, .bool false]) rfl rfl) rfl ?_
          -- r19.11 t126 := extract [1] t115
          refine al_take (i := 11) rfl (by kernel_rfl) (by kernel_rfl) (by kernel_rfl) rfl (fun _ _ _ h => h) (op_extract (vs := [vm124, .bool false]) rfl rfl) rfl ?_
          -- r19.12 t20 := assign  t125
          refine al_take (i := 12) rfl (by kernel_rfl) (by kernel_rfl) (by kernel_rfl) rfl (fun _ _ _ h => h) (op_assign rfl) rfl ?_
          -- r19.13 t21 := assign  t126
          refine al_take (i := 13) rfl (by kernel_rfl) (by kernel_rfl) (by kernel_rfl) rfl (fun _ _ _ h => h) (op_assign rfl) rfl ?_
          refine al_done (by kernel_rfl) ?_
          refine pq_then ?_
          refine cw_seq ?_
          refine cw_region ?_
          -- r20.0 t127 := move  t19
          refine ol_pure rfl (op_move rfl) ?_
          -- r20.1 t128 := move  t127
          refine ol_pure rfl (op_move rfl) ?_
          -- r20.2 t129 := move  t21 ?1=False
          refine ol_guard_pure rfl rfl rfl (op_move rfl) ?_
          -- r20.3 t130 := pick  t128 Ctrue t129
          refine ol_pure rfl (op_pick_f rfl rfl) ?_
          refine ol_nil ?_
          refine pq_then ?_
          refine cw_cond_f rfl ?_
          refine cw_skip ?_
          refine pq_then ?_
          refine cw_seq ?_
          refine cw_region ?_
          -- r22.0 t131 := move  t5
          refine ol_pure rfl (op_move rfl) ?_
          -- r22.1 t4 := assign  t131
          refine ol_pure rfl (op_assign rfl) ?_
          refine ol_nil ?_
          refine pq_then ?_
          refine cw_ret ?_
          refine ret1 rfl rfl ?_
          -- ret5 h25f h47f h93t o8
          exact hS.sc_b rfl
      · skip
        try simp only [decide_eq_true_eq, decide_eq_false_iff_not, Bool.not_eq_true', Bool.not_eq_false', Bool.not_eq_eq_eq_not, Bool.not_true, Bool.not_false] at h93
        refine cw_skip ?_
        refine pq_then ?_
        refine cw_seq ?_
        refine cw_region ?_
        -- r22.0 t131 := move  t5
        refine ol_pure rfl (op_move rfl) ?_
        -- r22.1 t4 := assign  t131
        refine ol_pure rfl (op_assign rfl) ?_
        refine ol_nil ?_
        refine pq_then ?_
        refine cw_ret ?_
        refine ret1 rfl rfl ?_
        -- ret5 h25f h47f h93f
        exact hS.sc_b rfl
end Go.Proofs.Ytbpmkidaoemebaa.K
