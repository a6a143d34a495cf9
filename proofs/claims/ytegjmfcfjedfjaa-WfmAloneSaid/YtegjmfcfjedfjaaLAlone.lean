/-
  Cutting a program; the walk of WfmAlone.
  No condition but the premises that each theorem names.
-/
import Derived.Test.YtegjmfcfjedfjaaLUnf
import Derived.Test.YtegjmfcfjedfjaaPla
import Derived.Test.YtegjmfcfjedfjaaRet
namespace Go.Proofs.Ytegjmfcfjedfjaa.K
open Go Go.RowKit
set_option linter.unusedVariables false
set_option linter.unusedSimpArgs false

open Pl
theorem wrap_u8 {a : Int} (h : 0 ≤ a ∧ a ≤ 255) : IntKind.i64.wrap a = a := by
  simp [IntKind.wrap, IntKind.signed, IntKind.bits]
  omega

set_option maxRecDepth 100000 in
set_option maxHeartbeats 400000 in

theorem R16_Put_c (G : GH) (w0 : World) (hG : Holds G w0) (v : Value) (l : List Int) (x : Int) (h1 : RSl 1 EInt G v l) (hx : -9223372036854775808 ≤ x ∧ x ≤ 9223372036854775807) (hn : l.length ≤ 1000000) :
    Calls Try.prog 55 #[v, .int .i64 x] w0 (Rt G w0 (fun G v => RSl 1 EInt G v (putI l x))) := by
  obtain ⟨oa, c, rfl, hlc, hcm⟩ := h1.elim
  have hbnd : ∀ y ∈ putI l x, -9223372036854775808 ≤ y ∧ y ≤ 9223372036854775807 := fun y hy => by
    rcases putI_mem.1 hy with rfl | hy
    · exact hx
    · exact h1.bnd y hy
  refine enter Try.func55 rfl (N := 48) rfl (Nat.le_of_ble_eq_true rfl) ?_
  have hS := SS.init hG
  refine cw_seq ?_
  refine cw_region ?_
  -- r0.0 t4 := assign  C(slice (none Addr) 0 0)
  refine ol_pure rfl (op_assign rfl) ?_
  refine ol_nil ?_
  refine pq_then ?_
  refine cw_seq ?_
  refine cw_region ?_
  -- r1.0 t5 := assign  C0
  refine ol_pure rfl (op_assign rfl) ?_
  refine ol_nil ?_
  refine pq_then ?_
  refine cw_seq ?_
  refine cw_block ?_
  refine cw_loop (fun e w n => ∃ k : Nat, e = [(0, .slice oa l.length c), (1, .int .i64 x), (5, .int .i64 (k : Nat))] ∧ k ≤ l.length ∧ n = l.length - k ∧ putI l x = l.take k ++ putI (l.drop k) x ∧ SS G w0 G [] w) _ _ (by exact ⟨0, rfl, Nat.zero_le _, rfl, rfl, hS⟩) ((Sub.cons rfl (Sub.cons rfl (Sub.cons rfl Sub.nil)))) ?_
  clear hS
  rintro e w n ⟨k, rfl, hk, rfl, hp, hS⟩
  refine cw_seq ?_
  refine cw_seq ?_
  refine cw_region ?_
  -- r2.0 t7 := move  t5
  refine ol_pure rfl (op_move rfl) ?_
  -- r2.1 t8 := move  t0
  refine ol_pure rfl (op_move rfl) ?_
  -- r2.2 t9 := call len t8
  refine ol_pure rfl (op_len sl_27 rfl rfl) ?_
  -- r2.3 t10 := lss t7 t9
  refine ol_pure rfl (op_lss rfl rfl) ?_
  -- r2.4 t11 := move  t10
  refine ol_pure rfl (op_move rfl) ?_
  refine ol_split (fun h11 => ?_) (fun h11 => ?_)
  · skip
    try simp only [decide_eq_true_eq, decide_eq_false_iff_not, Bool.not_eq_true', Bool.not_eq_false', Bool.not_eq_eq_eq_not, Bool.not_true, Bool.not_false] at h11
    have hlt : k < l.length := by omega
    obtain ⟨hoa, hc, hb⟩ := h1.int hlt
    -- r2.5 t12 := move  t0 ?4=True
    refine ol_guard_pure rfl rfl rfl (op_move rfl) ?_
    -- r2.6 t13 := move  t5 ?4=True
    refine ol_guard_pure rfl rfl rfl (op_move rfl) ?_
    -- r2.7 t14 := indexAddr [27] t12 t13 ?4=True
    refine ol_guard_pure rfl rfl rfl (op_indexN sl_27 rfl rfl (by omega) (by assumption)) ?_
    -- r2.8 t15 := load [3] t14 ?4=True
    refine ol_guard_load rfl rfl rfl (op_load1 one_3 rfl (fun w hw => by first | exact hw.gcell (by assumption) | exact hw.gcell0 (by assumption))) hS ?_
    -- r2.9 t16 := move  t1 ?4=True
    refine ol_guard_pure rfl rfl rfl (op_move rfl) ?_
    -- r2.10 t17 := lss t15 t16 ?4=True
    refine ol_guard_pure rfl rfl rfl (op_lss rfl rfl) ?_
    -- r2.11 t18 := pick  t11 t17 Cfalse
    refine ol_pure rfl (op_pick_t rfl rfl) ?_
    refine ol_nil ?_
    refine pq_then ?_
    refine cw_cond rfl (fun h18 => ?_) (fun h18 => ?_)
    · skip
      try simp only [decide_eq_true_eq, decide_eq_false_iff_not, Bool.not_eq_true', Bool.not_eq_false', Bool.not_eq_eq_eq_not, Bool.not_true, Bool.not_false] at h18
      refine cw_skip ?_
      refine pq_then ?_
      refine cw_block ?_
      refine cw_region ?_
      -- r3.0 t19 := move  t5
      refine ol_pure rfl (op_move rfl) ?_
      -- r3.1 t20 := add t19 C1
      refine ol_pure rfl (op_add rfl rfl (by omega) (by omega)) ?_
      -- r3.2 t5 := assign  t20
      refine ol_pure rfl (op_assign rfl) ?_
      refine ol_nil ?_
      refine pq_in_normal ?_
      -- end of round 1 h11t h18t
      refine pq_loop _ _ (by exact ⟨k + 1, rfl, by omega, rfl, putI_step hlt hp h18, hS⟩) ((Sub.cons rfl (Sub.cons rfl (Sub.cons rfl Sub.nil)))) (by omega)
    · skip
      try simp only [decide_eq_true_eq, decide_eq_false_iff_not, Bool.not_eq_true', Bool.not_eq_false', Bool.not_eq_eq_eq_not, Bool.not_true, Bool.not_false] at h18
      refine cw_exit ?_
      refine pq_exit ?_
      refine pq_exit ?_
      refine pq_in_exit ?_
      refine pq_then ?_
      refine cw_seq ?_
      refine cw_seq ?_
      refine cw_region ?_
      -- r4.0 t21 := move  t5
      refine ol_pure rfl (op_move rfl) ?_
      -- r4.1 t22 := move  t0
      refine ol_pure rfl (op_move rfl) ?_
      -- r4.2 t23 := call len t22
      refine ol_pure rfl (op_len sl_27 rfl rfl) ?_
      -- r4.3 t24 := lss t21 t23
      refine ol_pure rfl (op_lss rfl rfl) ?_
      -- r4.4 t25 := move  t24
      refine ol_pure rfl (op_move rfl) ?_
      refine ol_split (fun h25 => ?_) (fun h25 => ?_)
      · skip
        try simp only [decide_eq_true_eq, decide_eq_false_iff_not, Bool.not_eq_true', Bool.not_eq_false', Bool.not_eq_eq_eq_not, Bool.not_true, Bool.not_false] at h25
        have hlt : k < l.length := by omega
        obtain ⟨hoa, hc, hb⟩ := h1.int hlt
        -- r4.5 t26 := move  t0 ?4=True
        refine ol_guard_pure rfl rfl rfl (op_move rfl) ?_
        -- r4.6 t27 := move  t5 ?4=True
        refine ol_guard_pure rfl rfl rfl (op_move rfl) ?_
        -- r4.7 t28 := indexAddr [27] t26 t27 ?4=True
        refine ol_guard_pure rfl rfl rfl (op_indexN sl_27 rfl rfl (by omega) (by assumption)) ?_
        -- r4.8 t29 := load [3] t28 ?4=True
        refine ol_guard_load rfl rfl rfl (op_load1 one_3 rfl (fun w hw => by first | exact hw.gcell (by assumption) | exact hw.gcell0 (by assumption))) hS ?_
        -- r4.9 t30 := move  t1 ?4=True
        refine ol_guard_pure rfl rfl rfl (op_move rfl) ?_
        -- r4.10 t31 := eql t29 t30 ?4=True
        refine ol_guard_pure rfl rfl rfl (op_eql rfl rfl) ?_
        -- r4.11 t32 := pick  t25 t31 Cfalse
        refine ol_pure rfl (op_pick_t rfl rfl) ?_
        refine ol_nil ?_
        refine pq_then ?_
        refine cw_cond rfl (fun h32 => ?_) (fun h32 => ?_)
        · skip
          try simp only [decide_eq_true_eq, decide_eq_false_iff_not, Bool.not_eq_true', Bool.not_eq_false', Bool.not_eq_eq_eq_not, Bool.not_true, Bool.not_false] at h32
          refine cw_seq ?_
          refine cw_region ?_
          -- r5.0 t33 := move  t0
          refine ol_pure rfl (op_move rfl) ?_
          -- r5.1 t4 := assign  t33
          refine ol_pure rfl (op_assign rfl) ?_
          refine ol_nil ?_
          refine pq_then ?_
          refine cw_ret ?_
          refine pq_ret ?_
          refine ret1 rfl rfl ?_
          -- ret1 h11t h18f h25t h32t
          exact hS.rt _ (by rw [putI_here hlt hp h32]; exact h1)
        · skip
          try simp only [decide_eq_true_eq, decide_eq_false_iff_not, Bool.not_eq_true', Bool.not_eq_false', Bool.not_eq_eq_eq_not, Bool.not_true, Bool.not_false] at h32
          have hput : putI l x = l.take k ++ x :: l.drop k := putI_new hlt hp (by omega) (by omega)
          refine cw_skip ?_
          refine pq_then ?_
          refine cw_seq ?_
          refine cw_region ?_
          -- r6.0 t34 := buildSlice [27, 0] 
          refine ol_step rfl (op_buildSlice (el := 3) (is := []) (xs := []) (sz := 1) (cs := []) hS rfl rfl (fun w => by kernel_rfl) rfl (by decide)) ?_
          clear hS
          rintro _ w ⟨o6, rfl, hS⟩
          -- r6.1 t35 := move  t0
          refine ol_pure rfl (op_move rfl) ?_
          -- r6.2 t36 := move  t5
          refine ol_pure rfl (op_move rfl) ?_
          -- r6.3 t37 := slice t35 [:t36:]
          have hcut := h1.cut (lo := 0) (hi := k) (Nat.zero_le _) (by omega)
          obtain ⟨oY, cY, hY, _, _⟩ := hcut.elimN (n := k) (by simp; omega)
          rw [hY, List.drop_zero] at hcut
          refine ol_pure rfl (op_val (op_slice_h sl_27 rfl rfl (by omega)) hY) ?_
          -- r6.4 t38 := call append t34 t37
          refine ol_step rfl (op_append (j := 0) (m := k) hS sl_27 el_3 rfl rfl rfl rfl rfl (by simp; omega) (by decide) (hcut.newsI hS.hold) (ones_i _) (by omega) (by unfold maxLen; omega)) ?_
          clear hS
          rintro _ w ⟨o6n, c_o6n, rfl, hS⟩; (try simp only [List.nil_append, List.cons_append, List.set] at hS)
          -- r6.5 t6 := assign  t38
          refine ol_pure rfl (op_assign rfl) ?_
          refine ol_nil ?_
          refine pq_then ?_
          refine cw_seq ?_
          refine cw_region ?_
          -- r7.0 t39 := move  t6
          refine ol_pure rfl (op_move rfl) ?_
          -- r7.1 t40 := move  t1
          refine ol_pure rfl (op_move rfl) ?_
          -- r7.2 t41 := buildSlice [27, 1] 0:t40
          refine ol_step rfl (op_buildSlice (el := 3) (is := [0]) (xs := [.tmp 40]) (sz := 1) (cs := [.int .i64 x]) hS rfl rfl (fun w => by kernel_rfl) rfl (by decide)) ?_
          clear hS
          rintro _ w ⟨s41, rfl, hS⟩
          -- r7.3 t42 := call append t39 t41
          refine ol_step rfl (op_append (j := 1) hS sl_27 el_3 rfl rfl rfl rfl rfl rfl (by decide) (hS.news (j := 0) rfl) (by simp [Value.oneCell']) (by omega) (by unfold maxLen; omega)) ?_
          clear hS
          rintro _ w ⟨o6nn, c_o6nn, rfl, hS⟩; (try simp only [List.nil_append, List.cons_append, List.set] at hS); replace hS := SS.drop [] hS; (try simp only [List.nil_append, List.cons_append] at hS)
          -- r7.4 t6 := assign  t42
          refine ol_pure rfl (op_assign rfl) ?_
          refine ol_nil ?_
          refine pq_then ?_
          refine cw_seq ?_
          refine cw_region ?_
          -- r8.0 t43 := move  t6
          refine ol_pure rfl (op_move rfl) ?_
          -- r8.1 t44 := move  t0
          refine ol_pure rfl (op_move rfl) ?_
          -- r8.2 t45 := move  t5
          refine ol_pure rfl (op_move rfl) ?_
          -- r8.3 t46 := slice t44 [t45::]
          have hcut2 := h1.cut (lo := k) (hi := l.length) (by omega) (Nat.le_refl _)
          obtain ⟨oZ, cZ, hZ, _, _⟩ := hcut2.elimN (n := l.length - k) (by simp)
          rw [hZ, List.take_length] at hcut2
          refine ol_pure rfl (op_val (op_slice_l sl_27 rfl rfl (by omega)) hZ) ?_
          -- r8.4 t47 := call append t43 t46
          refine ol_step rfl (op_append (j := 0) (m := l.length - k) hS sl_27 el_3 rfl rfl rfl rfl rfl (by simp) (by decide) (hcut2.newsI hS.hold) (ones_i _) (by omega) (by unfold maxLen; omega)) ?_
          clear hS
          rintro _ w ⟨o6nnn, c_o6nnn, rfl, hS⟩; (try simp only [List.nil_append, List.cons_append, List.set] at hS)
          -- r8.5 t4 := assign  t47
          refine ol_pure rfl (op_assign rfl) ?_
          refine ol_nil ?_
          refine pq_then ?_
          refine cw_ret ?_
          refine ret1 rfl rfl ?_
          -- ret2 h11t h18f h25t h32f
          have hlen : (putI l x).length = 0 + k + 1 + (l.length - k) := by rw [hput]; simp; omega
          obtain ⟨G', _, hS', hR⟩ := SS.give (zs := putI l x) [] hS (by decide) EInt.mono (by
            have := Rows.of_map (xs := putI l x) (f := Value.int .i64) (E := EInt) (G := G) (fun y hy => ⟨rfl, hbnd y hy⟩)
            rw [show (putI l x).map (Value.int .i64) = (l.take k).map (Value.int .i64) ++ [Value.int .i64 x] ++ (l.drop k).map (Value.int .i64) from by rw [hput]; simp] at this
            exact this) hlen.symm
          exact hS'.rt _ hR
      · skip
        try simp only [decide_eq_true_eq, decide_eq_false_iff_not, Bool.not_eq_true', Bool.not_eq_false', Bool.not_eq_eq_eq_not, Bool.not_true, Bool.not_false] at h25
        have hput : putI l x = l.take k ++ x :: l.drop k := putI_end (by omega) hp
        refine ol_guard_no rfl rfl rfl rfl ?_
        refine ol_guard_no rfl rfl rfl rfl ?_
        refine ol_guard_no rfl rfl rfl rfl ?_
        refine ol_guard_no rfl rfl rfl rfl ?_
        refine ol_guard_no rfl rfl rfl rfl ?_
        refine ol_guard_no rfl rfl rfl rfl ?_
        -- r4.11 t32 := pick  t25 t31 Cfalse
        refine ol_pure rfl (op_pick_f rfl rfl) ?_
        refine ol_nil ?_
        refine pq_then ?_
        refine cw_cond_f rfl ?_
        refine cw_skip ?_
        refine pq_then ?_
        refine cw_seq ?_
        refine cw_region ?_
        -- r6.0 t34 := buildSlice [27, 0] 
        refine ol_step rfl (op_buildSlice (el := 3) (is := []) (xs := []) (sz := 1) (cs := []) hS rfl rfl (fun w => by kernel_rfl) rfl (by decide)) ?_
        clear hS
        rintro _ w ⟨o6, rfl, hS⟩
        -- r6.1 t35 := move  t0
        refine ol_pure rfl (op_move rfl) ?_
        -- r6.2 t36 := move  t5
        refine ol_pure rfl (op_move rfl) ?_
        -- r6.3 t37 := slice t35 [:t36:]
        have hcut := h1.cut (lo := 0) (hi := k) (Nat.zero_le _) (by omega)
        obtain ⟨oY, cY, hY, _, _⟩ := hcut.elimN (n := k) (by simp; omega)
        rw [hY, List.drop_zero] at hcut
        refine ol_pure rfl (op_val (op_slice_h sl_27 rfl rfl (by omega)) hY) ?_
        -- r6.4 t38 := call append t34 t37
        refine ol_step rfl (op_append (j := 0) (m := k) hS sl_27 el_3 rfl rfl rfl rfl rfl (by simp; omega) (by decide) (hcut.newsI hS.hold) (ones_i _) (by omega) (by unfold maxLen; omega)) ?_
        clear hS
        rintro _ w ⟨o6n, c_o6n, rfl, hS⟩; (try simp only [List.nil_append, List.cons_append, List.set] at hS)
        -- r6.5 t6 := assign  t38
        refine ol_pure rfl (op_assign rfl) ?_
        refine ol_nil ?_
        refine pq_then ?_
        refine cw_seq ?_
        refine cw_region ?_
        -- r7.0 t39 := move  t6
        refine ol_pure rfl (op_move rfl) ?_
        -- r7.1 t40 := move  t1
        refine ol_pure rfl (op_move rfl) ?_
        -- r7.2 t41 := buildSlice [27, 1] 0:t40
        refine ol_step rfl (op_buildSlice (el := 3) (is := [0]) (xs := [.tmp 40]) (sz := 1) (cs := [.int .i64 x]) hS rfl rfl (fun w => by kernel_rfl) rfl (by decide)) ?_
        clear hS
        rintro _ w ⟨s41, rfl, hS⟩
        -- r7.3 t42 := call append t39 t41
        refine ol_step rfl (op_append (j := 1) hS sl_27 el_3 rfl rfl rfl rfl rfl rfl (by decide) (hS.news (j := 0) rfl) (by simp [Value.oneCell']) (by omega) (by unfold maxLen; omega)) ?_
        clear hS
        rintro _ w ⟨o6nn, c_o6nn, rfl, hS⟩; (try simp only [List.nil_append, List.cons_append, List.set] at hS); replace hS := SS.drop [] hS; (try simp only [List.nil_append, List.cons_append] at hS)
        -- r7.4 t6 := assign  t42
        refine ol_pure rfl (op_assign rfl) ?_
        refine ol_nil ?_
        refine pq_then ?_
        refine cw_seq ?_
        refine cw_region ?_
        -- r8.0 t43 := move  t6
        refine ol_pure rfl (op_move rfl) ?_
        -- r8.1 t44 := move  t0
        refine ol_pure rfl (op_move rfl) ?_
        -- r8.2 t45 := move  t5
        refine ol_pure rfl (op_move rfl) ?_
        -- r8.3 t46 := slice t44 [t45::]
        have hcut2 := h1.cut (lo := k) (hi := l.length) (by omega) (Nat.le_refl _)
        obtain ⟨oZ, cZ, hZ, _, _⟩ := hcut2.elimN (n := l.length - k) (by simp)
        rw [hZ, List.take_length] at hcut2
        refine ol_pure rfl (op_val (op_slice_l sl_27 rfl rfl (by omega)) hZ) ?_
        -- r8.4 t47 := call append t43 t46
        refine ol_step rfl (op_append (j := 0) (m := l.length - k) hS sl_27 el_3 rfl rfl rfl rfl rfl (by simp) (by decide) (hcut2.newsI hS.hold) (ones_i _) (by omega) (by unfold maxLen; omega)) ?_
        clear hS
        rintro _ w ⟨o6nnn, c_o6nnn, rfl, hS⟩; (try simp only [List.nil_append, List.cons_append, List.set] at hS)
        -- r8.5 t4 := assign  t47
        refine ol_pure rfl (op_assign rfl) ?_
        refine ol_nil ?_
        refine pq_then ?_
        refine cw_ret ?_
        refine ret1 rfl rfl ?_
        -- ret2 h11t h18f h25f
        have hlen : (putI l x).length = 0 + k + 1 + (l.length - k) := by rw [hput]; simp; omega
        obtain ⟨G', _, hS', hR⟩ := SS.give (zs := putI l x) [] hS (by decide) EInt.mono (by
          have := Rows.of_map (xs := putI l x) (f := Value.int .i64) (E := EInt) (G := G) (fun y hy => ⟨rfl, hbnd y hy⟩)
          rw [show (putI l x).map (Value.int .i64) = (l.take k).map (Value.int .i64) ++ [Value.int .i64 x] ++ (l.drop k).map (Value.int .i64) from by rw [hput]; simp] at this
          exact this) hlen.symm
        exact hS'.rt _ hR
  · skip
    try simp only [decide_eq_true_eq, decide_eq_false_iff_not, Bool.not_eq_true', Bool.not_eq_false', Bool.not_eq_eq_eq_not, Bool.not_true, Bool.not_false] at h11
    refine ol_guard_no rfl rfl rfl rfl ?_
    refine ol_guard_no rfl rfl rfl rfl ?_
    refine ol_guard_no rfl rfl rfl rfl ?_
    refine ol_guard_no rfl rfl rfl rfl ?_
    refine ol_guard_no rfl rfl rfl rfl ?_
    refine ol_guard_no rfl rfl rfl rfl ?_
    -- r2.11 t18 := pick  t11 t17 Cfalse
    refine ol_pure rfl (op_pick_f rfl rfl) ?_
    refine ol_nil ?_
    refine pq_then ?_
    refine cw_cond_f rfl ?_
    refine cw_exit ?_
    refine pq_exit ?_
    refine pq_exit ?_
    refine pq_in_exit ?_
    refine pq_then ?_
    refine cw_seq ?_
    refine cw_seq ?_
    refine cw_region ?_
    -- r4.0 t21 := move  t5
    refine ol_pure rfl (op_move rfl) ?_
    -- r4.1 t22 := move  t0
    refine ol_pure rfl (op_move rfl) ?_
    -- r4.2 t23 := call len t22
    refine ol_pure rfl (op_len sl_27 rfl rfl) ?_
    -- r4.3 t24 := lss t21 t23
    refine ol_pure rfl (op_lss rfl rfl) ?_
    -- r4.4 t25 := move  t24
    refine ol_pure rfl (op_move rfl) ?_
    refine ol_split (fun h25 => ?_) (fun h25 => ?_)
    · skip
      try simp only [decide_eq_true_eq, decide_eq_false_iff_not, Bool.not_eq_true', Bool.not_eq_false', Bool.not_eq_eq_eq_not, Bool.not_true, Bool.not_false] at h25
      have hlt : k < l.length := by omega
      obtain ⟨hoa, hc, hb⟩ := h1.int hlt
      -- r4.5 t26 := move  t0 ?4=True
      refine ol_guard_pure rfl rfl rfl (op_move rfl) ?_
      -- r4.6 t27 := move  t5 ?4=True
      refine ol_guard_pure rfl rfl rfl (op_move rfl) ?_
      -- r4.7 t28 := indexAddr [27] t26 t27 ?4=True
      refine ol_guard_pure rfl rfl rfl (op_indexN sl_27 rfl rfl (by omega) (by assumption)) ?_
      -- r4.8 t29 := load [3] t28 ?4=True
      refine ol_guard_load rfl rfl rfl (op_load1 one_3 rfl (fun w hw => by first | exact hw.gcell (by assumption) | exact hw.gcell0 (by assumption))) hS ?_
      -- r4.9 t30 := move  t1 ?4=True
      refine ol_guard_pure rfl rfl rfl (op_move rfl) ?_
      -- r4.10 t31 := eql t29 t30 ?4=True
      refine ol_guard_pure rfl rfl rfl (op_eql rfl rfl) ?_
      -- r4.11 t32 := pick  t25 t31 Cfalse
      refine ol_pure rfl (op_pick_t rfl rfl) ?_
      refine ol_nil ?_
      refine pq_then ?_
      refine cw_cond rfl (fun h32 => ?_) (fun h32 => ?_)
      · skip
        try simp only [decide_eq_true_eq, decide_eq_false_iff_not, Bool.not_eq_true', Bool.not_eq_false', Bool.not_eq_eq_eq_not, Bool.not_true, Bool.not_false] at h32
        refine cw_seq ?_
        refine cw_region ?_
        -- r5.0 t33 := move  t0
        refine ol_pure rfl (op_move rfl) ?_
        -- r5.1 t4 := assign  t33
        refine ol_pure rfl (op_assign rfl) ?_
        refine ol_nil ?_
        refine pq_then ?_
        refine cw_ret ?_
        refine pq_ret ?_
        refine ret1 rfl rfl ?_
        -- ret1 h11f h25t h32t
        exact hS.rt _ (by rw [putI_here hlt hp h32]; exact h1)
      · skip
        try simp only [decide_eq_true_eq, decide_eq_false_iff_not, Bool.not_eq_true', Bool.not_eq_false', Bool.not_eq_eq_eq_not, Bool.not_true, Bool.not_false] at h32
        have hput : putI l x = l.take k ++ x :: l.drop k := putI_new hlt hp (by omega) (by omega)
        refine cw_skip ?_
        refine pq_then ?_
        refine cw_seq ?_
        refine cw_region ?_
        -- r6.0 t34 := buildSlice [27, 0] 
        refine ol_step rfl (op_buildSlice (el := 3) (is := []) (xs := []) (sz := 1) (cs := []) hS rfl rfl (fun w => by kernel_rfl) rfl (by decide)) ?_
        clear hS
        rintro _ w ⟨o6, rfl, hS⟩
        -- r6.1 t35 := move  t0
        refine ol_pure rfl (op_move rfl) ?_
        -- r6.2 t36 := move  t5
        refine ol_pure rfl (op_move rfl) ?_
        -- r6.3 t37 := slice t35 [:t36:]
        have hcut := h1.cut (lo := 0) (hi := k) (Nat.zero_le _) (by omega)
        obtain ⟨oY, cY, hY, _, _⟩ := hcut.elimN (n := k) (by simp; omega)
        rw [hY, List.drop_zero] at hcut
        refine ol_pure rfl (op_val (op_slice_h sl_27 rfl rfl (by omega)) hY) ?_
        -- r6.4 t38 := call append t34 t37
        refine ol_step rfl (op_append (j := 0) (m := k) hS sl_27 el_3 rfl rfl rfl rfl rfl (by simp; omega) (by decide) (hcut.newsI hS.hold) (ones_i _) (by omega) (by unfold maxLen; omega)) ?_
        clear hS
        rintro _ w ⟨o6n, c_o6n, rfl, hS⟩; (try simp only [List.nil_append, List.cons_append, List.set] at hS)
        -- r6.5 t6 := assign  t38
        refine ol_pure rfl (op_assign rfl) ?_
        refine ol_nil ?_
        refine pq_then ?_
        refine cw_seq ?_
        refine cw_region ?_
        -- r7.0 t39 := move  t6
        refine ol_pure rfl (op_move rfl) ?_
        -- r7.1 t40 := move  t1
        refine ol_pure rfl (op_move rfl) ?_
        -- r7.2 t41 := buildSlice [27, 1] 0:t40
        refine ol_step rfl (op_buildSlice (el := 3) (is := [0]) (xs := [.tmp 40]) (sz := 1) (cs := [.int .i64 x]) hS rfl rfl (fun w => by kernel_rfl) rfl (by decide)) ?_
        clear hS
        rintro _ w ⟨s41, rfl, hS⟩
        -- r7.3 t42 := call append t39 t41
        refine ol_step rfl (op_append (j := 1) hS sl_27 el_3 rfl rfl rfl rfl rfl rfl (by decide) (hS.news (j := 0) rfl) (by simp [Value.oneCell']) (by omega) (by unfold maxLen; omega)) ?_
        clear hS
        rintro _ w ⟨o6nn, c_o6nn, rfl, hS⟩; (try simp only [List.nil_append, List.cons_append, List.set] at hS); replace hS := SS.drop [] hS; (try simp only [List.nil_append, List.cons_append] at hS)
        -- r7.4 t6 := assign  t42
        refine ol_pure rfl (op_assign rfl) ?_
        refine ol_nil ?_
        refine pq_then ?_
        refine cw_seq ?_
        refine cw_region ?_
        -- r8.0 t43 := move  t6
        refine ol_pure rfl (op_move rfl) ?_
        -- r8.1 t44 := move  t0
        refine ol_pure rfl (op_move rfl) ?_
        -- r8.2 t45 := move  t5
        refine ol_pure rfl (op_move rfl) ?_
        -- r8.3 t46 := slice t44 [t45::]
        have hcut2 := h1.cut (lo := k) (hi := l.length) (by omega) (Nat.le_refl _)
        obtain ⟨oZ, cZ, hZ, _, _⟩ := hcut2.elimN (n := l.length - k) (by simp)
        rw [hZ, List.take_length] at hcut2
        refine ol_pure rfl (op_val (op_slice_l sl_27 rfl rfl (by omega)) hZ) ?_
        -- r8.4 t47 := call append t43 t46
        refine ol_step rfl (op_append (j := 0) (m := l.length - k) hS sl_27 el_3 rfl rfl rfl rfl rfl (by simp) (by decide) (hcut2.newsI hS.hold) (ones_i _) (by omega) (by unfold maxLen; omega)) ?_
        clear hS
        rintro _ w ⟨o6nnn, c_o6nnn, rfl, hS⟩; (try simp only [List.nil_append, List.cons_append, List.set] at hS)
        -- r8.5 t4 := assign  t47
        refine ol_pure rfl (op_assign rfl) ?_
        refine ol_nil ?_
        refine pq_then ?_
        refine cw_ret ?_
        refine ret1 rfl rfl ?_
        -- ret2 h11f h25t h32f
        have hlen : (putI l x).length = 0 + k + 1 + (l.length - k) := by rw [hput]; simp; omega
        obtain ⟨G', _, hS', hR⟩ := SS.give (zs := putI l x) [] hS (by decide) EInt.mono (by
          have := Rows.of_map (xs := putI l x) (f := Value.int .i64) (E := EInt) (G := G) (fun y hy => ⟨rfl, hbnd y hy⟩)
          rw [show (putI l x).map (Value.int .i64) = (l.take k).map (Value.int .i64) ++ [Value.int .i64 x] ++ (l.drop k).map (Value.int .i64) from by rw [hput]; simp] at this
          exact this) hlen.symm
        exact hS'.rt _ hR
    · skip
      try simp only [decide_eq_true_eq, decide_eq_false_iff_not, Bool.not_eq_true', Bool.not_eq_false', Bool.not_eq_eq_eq_not, Bool.not_true, Bool.not_false] at h25
      have hput : putI l x = l.take k ++ x :: l.drop k := putI_end (by omega) hp
      refine ol_guard_no rfl rfl rfl rfl ?_
      refine ol_guard_no rfl rfl rfl rfl ?_
      refine ol_guard_no rfl rfl rfl rfl ?_
      refine ol_guard_no rfl rfl rfl rfl ?_
      refine ol_guard_no rfl rfl rfl rfl ?_
      refine ol_guard_no rfl rfl rfl rfl ?_
      -- r4.11 t32 := pick  t25 t31 Cfalse
      refine ol_pure rfl (op_pick_f rfl rfl) ?_
      refine ol_nil ?_
      refine pq_then ?_
      refine cw_cond_f rfl ?_
      refine cw_skip ?_
      refine pq_then ?_
      refine cw_seq ?_
      refine cw_region ?_
      -- r6.0 t34 := buildSlice [27, 0] 
      refine ol_step rfl (op_buildSlice (el := 3) (is := []) (xs := []) (sz := 1) (cs := []) hS rfl rfl (fun w => by kernel_rfl) rfl (by decide)) ?_
      clear hS
      rintro _ w ⟨o6, rfl, hS⟩
      -- r6.1 t35 := move  t0
      refine ol_pure rfl (op_move rfl) ?_
      -- r6.2 t36 := move  t5
      refine ol_pure rfl (op_move rfl) ?_
      -- r6.3 t37 := slice t35 [:t36:]
      have hcut := h1.cut (lo := 0) (hi := k) (Nat.zero_le _) (by omega)
      obtain ⟨oY, cY, hY, _, _⟩ := hcut.elimN (n := k) (by simp; omega)
      rw [hY, List.drop_zero] at hcut
      refine ol_pure rfl (op_val (op_slice_h sl_27 rfl rfl (by omega)) hY) ?_
      -- r6.4 t38 := call append t34 t37
      refine ol_step rfl (op_append (j := 0) (m := k) hS sl_27 el_3 rfl rfl rfl rfl rfl (by simp; omega) (by decide) (hcut.newsI hS.hold) (ones_i _) (by omega) (by unfold maxLen; omega)) ?_
      clear hS
      rintro _ w ⟨o6n, c_o6n, rfl, hS⟩; (try simp only [List.nil_append, List.cons_append, List.set] at hS)
      -- r6.5 t6 := assign  t38
      refine ol_pure rfl (op_assign rfl) ?_
      refine ol_nil ?_
      refine pq_then ?_
      refine cw_seq ?_
      refine cw_region ?_
      -- r7.0 t39 := move  t6
      refine ol_pure rfl (op_move rfl) ?_
      -- r7.1 t40 := move  t1
      refine ol_pure rfl (op_move rfl) ?_
      -- r7.2 t41 := buildSlice [27, 1] 0:t40
      refine ol_step rfl (op_buildSlice (el := 3) (is := [0]) (xs := [.tmp 40]) (sz := 1) (cs := [.int .i64 x]) hS rfl rfl (fun w => by kernel_rfl) rfl (by decide)) ?_
      clear hS
      rintro _ w ⟨s41, rfl, hS⟩
      -- r7.3 t42 := call append t39 t41
      refine ol_step rfl (op_append (j := 1) hS sl_27 el_3 rfl rfl rfl rfl rfl rfl (by decide) (hS.news (j := 0) rfl) (by simp [Value.oneCell']) (by omega) (by unfold maxLen; omega)) ?_
      clear hS
      rintro _ w ⟨o6nn, c_o6nn, rfl, hS⟩; (try simp only [List.nil_append, List.cons_append, List.set] at hS); replace hS := SS.drop [] hS; (try simp only [List.nil_append, List.cons_append] at hS)
      -- r7.4 t6 := assign  t42
      refine ol_pure rfl (op_assign rfl) ?_
      refine ol_nil ?_
      refine pq_then ?_
      refine cw_seq ?_
      refine cw_region ?_
      -- r8.0 t43 := move  t6
      refine ol_pure rfl (op_move rfl) ?_
      -- r8.1 t44 := move  t0
      refine ol_pure rfl (op_move rfl) ?_
      -- r8.2 t45 := move  t5
      refine ol_pure rfl (op_move rfl) ?_
      -- r8.3 t46 := slice t44 [t45::]
      have hcut2 := h1.cut (lo := k) (hi := l.length) (by omega) (Nat.le_refl _)
      obtain ⟨oZ, cZ, hZ, _, _⟩ := hcut2.elimN (n := l.length - k) (by simp)
      rw [hZ, List.take_length] at hcut2
      refine ol_pure rfl (op_val (op_slice_l sl_27 rfl rfl (by omega)) hZ) ?_
      -- r8.4 t47 := call append t43 t46
      refine ol_step rfl (op_append (j := 0) (m := l.length - k) hS sl_27 el_3 rfl rfl rfl rfl rfl (by simp) (by decide) (hcut2.newsI hS.hold) (ones_i _) (by omega) (by unfold maxLen; omega)) ?_
      clear hS
      rintro _ w ⟨o6nnn, c_o6nnn, rfl, hS⟩; (try simp only [List.nil_append, List.cons_append, List.set] at hS)
      -- r8.5 t4 := assign  t47
      refine ol_pure rfl (op_assign rfl) ?_
      refine ol_nil ?_
      refine pq_then ?_
      refine cw_ret ?_
      refine ret1 rfl rfl ?_
      -- ret2 h11f h25f
      have hlen : (putI l x).length = 0 + k + 1 + (l.length - k) := by rw [hput]; simp; omega
      obtain ⟨G', _, hS', hR⟩ := SS.give (zs := putI l x) [] hS (by decide) EInt.mono (by
        have := Rows.of_map (xs := putI l x) (f := Value.int .i64) (E := EInt) (G := G) (fun y hy => ⟨rfl, hbnd y hy⟩)
        rw [show (putI l x).map (Value.int .i64) = (l.take k).map (Value.int .i64) ++ [Value.int .i64 x] ++ (l.drop k).map (Value.int .i64) from by rw [hput]; simp] at this
        exact this) hlen.symm
      exact hS'.rt _ hR
set_option maxRecDepth 100000 in
set_option maxHeartbeats 1000000 in

theorem R16_Leads_c (G : GH) (w0 : World) (hG : Holds G w0) {α : Type} {E : ER α} (va vr : Value) (atoms : List α) (rs : List Rule) (h1 : RSl 1 E G va atoms) (h2 : RSl 3 ERule G vr rs) (hP : PrOk atoms.length rs) (a : Nat) (ha : a < atoms.length) :
    Calls Try.prog 41 #[.agg #[va, vr], .int .i64 (a : Nat)] w0 (Rt G w0 (fun G v => ∃ L, SetOf atoms.length L ∧ Closed rs L ∧ RSl 1 EInt G v L)) := by
  obtain ⟨oA, cA, rfl, hlA, hmA⟩ := h1.elim
  obtain ⟨oR, cR, rfl, hlR, hmR⟩ := h2.elim
  have hPn := hP.n_le
  have hPm := hP.m_le
  refine enter Try.func41 rfl (N := 65) rfl (Nat.le_of_ble_eq_true rfl) ?_
  have hS := SS.init hG
  refine cw_seq ?_
  refine cw_region ?_
  -- r0.0 t2 := box [25] t0
  refine ol_step rfl (op_box hS rfl rfl) ?_
  clear hS
  rintro _ w ⟨b2, rfl, hS⟩
  -- r0.1 t4 := assign  C(slice (none Addr) 0 0)
  refine ol_pure rfl (op_assign rfl) ?_
  refine ol_nil ?_
  refine pq_then ?_
  refine cw_seq ?_
  refine cw_region ?_
  -- r1.0 t11 := move  t1
  refine ol_pure rfl (op_move rfl) ?_
  -- r1.1 t12 := buildSlice [27, 1] 0:t11
  refine ol_step rfl (op_buildSlice (el := 3) (is := [0]) (xs := [.tmp 11]) (sz := 1) (cs := [.int .i64 (a : Nat)]) hS rfl rfl (fun w => by kernel_rfl) rfl (by decide)) ?_
  clear hS
  rintro _ w ⟨s12, rfl, hS⟩
  obtain ⟨G1, hl1, hS2, hR1⟩ := SS.give (zs := [((a : Nat) : Int)]) [] hS (by decide) EInt.mono (Rows.of_map (xs := [((a : Nat) : Int)]) (f := Value.int .i64) (fun y hy => ⟨rfl, by simp at hy; subst hy; omega⟩)) rfl
  clear hS
  have hS := hS2
  clear hS2
  simp only [List.nil_append] at hS
  have hset1 : SetOf atoms.length [((a : Nat) : Int)] := .one ⟨by omega, by omega⟩
  -- r1.2 t5 := assign  t12
  refine ol_pure rfl (op_assign rfl) ?_
  refine ol_nil ?_
  refine pq_then ?_
  refine cw_seq ?_
  refine cw_region ?_
  -- r2.0 t6 := assign  C0
  refine ol_pure rfl (op_assign rfl) ?_
  refine ol_nil ?_
  refine pq_then ?_
  refine cw_seq ?_
  refine cw_block ?_
  refine cw_loop (fun e w n => ∃ Gk oL cL L many, e = [(2, .pointer (some ⟨b2, 0, none⟩)), (5, .slice oL L.length cL), (6, .int .i64 (many : Nat))] ∧ SetOf atoms.length L ∧ many ≤ L.length ∧ n = atoms.length + 1 - many ∧ (many = L.length → Closed rs L) ∧ Le G Gk ∧ RSl 1 EInt Gk (.slice oL L.length cL) L ∧ SS G w0 Gk [.blk b2 25 [.slice oA atoms.length cA, .slice oR rs.length cR]] w) _ _ (by exact ⟨G1, s12, 1, [((a : Nat) : Int)], 0, rfl, hset1, Nat.zero_le _, rfl, (fun h => by simp at h), hl1, hR1, hS⟩) ((Sub.cons rfl (Sub.cons rfl (Sub.cons rfl Sub.nil)))) ?_
  clear hset1 hR1 hl1
  clear hS
  rintro e w n ⟨Gk, oL, cL, L, many, rfl, hset, hmn, rfl, hcl, hlk, hR, hS⟩
  refine cw_seq ?_
  refine cw_seq ?_
  refine cw_region ?_
  -- r3.0 t13 := move  t6
  refine ol_pure rfl (op_move rfl) ?_
  -- r3.1 t14 := move  t5
  refine ol_pure rfl (op_move rfl) ?_
  -- r3.2 t15 := call len t14
  refine ol_pure rfl (op_len sl_27 rfl rfl) ?_
  -- r3.3 t16 := lss t13 t15
  refine ol_pure rfl (op_lss rfl rfl) ?_
  refine ol_nil ?_
  refine pq_then ?_
  refine cw_cond rfl (fun h16 => ?_) (fun h16 => ?_)
  · skip
    try simp only [decide_eq_true_eq, decide_eq_false_iff_not, Bool.not_eq_true', Bool.not_eq_false', Bool.not_eq_eq_eq_not, Bool.not_true, Bool.not_false] at h16
    have hsl := hset.le
    refine cw_skip ?_
    refine pq_then ?_
    refine cw_block ?_
    refine cw_seq ?_
    refine cw_region ?_
    -- r4.0 t17 := move  t5
    refine ol_pure rfl (op_move rfl) ?_
    -- r4.1 t18 := call len t17
    refine ol_pure rfl (op_len sl_27 rfl rfl) ?_
    -- r4.2 t6 := assign  t18
    refine ol_pure rfl (op_assign rfl) ?_
    refine ol_nil ?_
    refine pq_then ?_
    refine cw_seq ?_
    refine cw_region ?_
    -- r5.0 t7 := assign  C0
    refine ol_pure rfl (op_assign rfl) ?_
    refine ol_nil ?_
    refine pq_then ?_
    refine cw_block ?_
    refine cw_loop (fun e w n => ∃ k G2 oL2 cL2 L2, e = [(2, .pointer (some ⟨b2, 0, none⟩)), (5, .slice oL2 L2.length cL2), (6, .int .i64 (L.length : Nat)), (7, .int .i64 (k : Nat))] ∧ k ≤ rs.length ∧ n = rs.length - k ∧ L2 = leadP (rs.take k) L ∧ Le G G2 ∧ RSl 1 EInt G2 (.slice oL2 L2.length cL2) L2 ∧ SS G w0 G2 [.blk b2 25 [.slice oA atoms.length cA, .slice oR rs.length cR]] w) _ _ (by exact ⟨0, Gk, oL, cL, L, rfl, Nat.zero_le _, rfl, rfl, hlk, hR, hS⟩) ((Sub.cons rfl (Sub.cons rfl (Sub.cons rfl (Sub.cons rfl Sub.nil))))) ?_
    clear hS
    rintro e w n ⟨k, G2, oL2, cL2, L2, rfl, hk, rfl, hL2, hl2, hR2, hS⟩
    refine cw_seq ?_
    refine cw_seq ?_
    refine cw_region ?_
    -- r6.0 t19 := move  t7
    refine ol_pure rfl (op_move rfl) ?_
    -- r6.1 t20 := fieldAddr [25, 1] t2
    refine ol_pure rfl (op_fieldAddr fld_25_1 rfl) ?_
    -- r6.2 t21 := load [23] t20
    refine ol_load rfl (op_load1 one_23 rfl (fun w hw => (hw.bcell (i := 0) rfl).trans rfl)) hS ?_
    -- r6.3 t22 := call len t21
    refine ol_pure rfl (op_len sl_23 rfl rfl) ?_
    -- r6.4 t23 := lss t19 t22
    refine ol_pure rfl (op_lss rfl rfl) ?_
    refine ol_nil ?_
    refine pq_then ?_
    refine cw_cond rfl (fun h23 => ?_) (fun h23 => ?_)
    · skip
      try simp only [decide_eq_true_eq, decide_eq_false_iff_not, Bool.not_eq_true', Bool.not_eq_false', Bool.not_eq_eq_eq_not, Bool.not_true, Bool.not_false] at h23
      have hlt : k < rs.length := by omega
      have hrk := (hP.rule _ (List.getElem_mem hlt)).1
      obtain ⟨hoa, cs, hcl, ⟨p, q, rfl, hp, hq, hhd⟩, hcells⟩ := h2.el hlt
      obtain ⟨op, cp, hpe, hlp, hmp⟩ := hp.elim
      obtain ⟨oq, cq, hqe, hlq, hmq⟩ := hq.elim
      subst hpe
      subst hqe
      have hple := hp.le
      have hqle := hq.le
      have hset2 : SetOf atoms.length L2 := by rw [hL2]; exact hset.leads (fun r hr => (hP.rule r (List.mem_of_mem_take hr)).1)
      have hsl2 := hset2.le
      refine cw_skip ?_
      refine pq_then ?_
      refine cw_seq ?_
      refine cw_block ?_
      refine cw_seq ?_
      refine cw_region ?_
      -- r8.0 t26 := fieldAddr [25, 1] t2
      refine ol_pure rfl (op_fieldAddr fld_25_1 rfl) ?_
      -- r8.1 t27 := load [23] t26
      refine ol_load rfl (op_load1 one_23 rfl (fun w hw => (hw.bcell (i := 0) rfl).trans rfl)) hS ?_
      -- r8.2 t28 := move  t7
      refine ol_pure rfl (op_move rfl) ?_
      -- r8.3 t29 := indexAddr [23] t27 t28
      refine ol_pure rfl (op_indexN sl_23 rfl rfl (by omega) (by assumption)) ?_
      -- r8.4 t30 := load [42] t29
      refine ol_load rfl (op_loadN agg_42 rfl (by rfl) (fun w hw k u hk => hw.gcell0 (hcells k u hk))) hS ?_
      -- r8.5 t8 := alloc [42] 
      refine ol_step rfl (op_alloc hS el_42 rfl) ?_
      clear hS
      rintro _ w ⟨b8, rfl, hS⟩
      -- r8.6 _ := store [42] t8 t30
      refine ol_step0  (op_storeN (j := 0) hS sz_42 rfl rfl rfl rfl rfl (by simp [Value.oneCell'])) ?_
      clear hS
      rintro _ w hS; (try simp only [List.nil_append, List.cons_append, List.set] at hS)
      refine ol_nil ?_
      refine pq_then ?_
      refine cw_seq ?_
      refine cw_seq ?_
      refine cw_region ?_
      -- r9.0 t31 := move  t5
      refine ol_pure rfl (op_move rfl) ?_
      -- r9.1 t32 := fieldAddr [42, 0] t8
      refine ol_pure rfl (op_fieldAddr fld_42_0 rfl) ?_
      -- r9.2 t33 := load [3] t32
      refine ol_load rfl (op_load1 one_3 rfl (fun w hw => (hw.bcell (i := 0) rfl).trans rfl)) hS ?_
      -- r9.3 t34 := call f52 t31 t33
      refine ol_step rfl (op_call_sc hS cf_52 rfl (R01_In_c _ _ hS.hold _ L2 rs[k].head hR2)) ?_
      clear hS
      rintro _ w ⟨rfl, hS⟩
      -- r9.4 t35 := not t34
      refine ol_pure rfl (op_not rfl) ?_
      refine ol_nil ?_
      refine pq_then ?_
      refine cw_cond rfl (fun h35 => ?_) (fun h35 => ?_)
      · skip
        try simp only [decide_eq_true_eq, decide_eq_false_iff_not, Bool.not_eq_true', Bool.not_eq_false', Bool.not_eq_eq_eq_not, Bool.not_true, Bool.not_false] at h35
        refine cw_exit ?_
        refine pq_exit ?_
        refine pq_in_exit ?_
        refine pq_then ?_
        refine cw_region ?_
        -- r7.0 t24 := move  t7
        refine ol_pure rfl (op_move rfl) ?_
        -- r7.1 t25 := add t24 C1
        refine ol_pure rfl (op_add rfl rfl (by omega) (by omega)) ?_
        -- r7.2 t7 := assign  t25
        refine ol_pure rfl (op_assign rfl) ?_
        refine ol_nil ?_
        -- end of round 2 h16t h23t h35t
        refine pq_loop _ _ (by exact (by replace hS := SS.drop [] hS; exact ⟨k + 1, G2, oL2, cL2, L2, rfl, by omega, rfl, by rw [leadP_snoc _ _ hlt, ← hL2, leadR, if_neg h35], hl2, hR2, hS⟩)) ((Sub.cons rfl (Sub.cons rfl (Sub.cons rfl (Sub.cons rfl Sub.nil))))) (by omega)
      · skip
        try simp only [decide_eq_true_eq, decide_eq_false_iff_not, Bool.not_eq_true', Bool.not_eq_false', Bool.not_eq_eq_eq_not, Bool.not_true, Bool.not_false] at h35
        refine cw_skip ?_
        refine pq_then ?_
        refine cw_seq ?_
        refine cw_seq ?_
        refine cw_region ?_
        -- r10.0 t9 := assign  C0
        refine ol_pure rfl (op_assign rfl) ?_
        refine ol_nil ?_
        refine pq_then ?_
        refine cw_block ?_
        refine cw_loop (fun e w n => ∃ j G3 oL3 cL3 L3, e = [(2, .pointer (some ⟨b2, 0, none⟩)), (5, .slice oL3 L3.length cL3), (6, .int .i64 (L.length : Nat)), (7, .int .i64 (k : Nat)), (8, .pointer (some ⟨b8, 0, none⟩)), (9, .int .i64 (j : Nat))] ∧ j ≤ rs[k].pos.length ∧ n = rs[k].pos.length - j ∧ L3 = (rs[k].pos.take j).foldl putI L2 ∧ Le G G3 ∧ RSl 1 EInt G3 (.slice oL3 L3.length cL3) L3 ∧ SS G w0 G3 [.blk b8 42 [.int .i64 rs[k].head, .slice op rs[k].pos.length cp, .slice oq rs[k].neg.length cq], .blk b2 25 [.slice oA atoms.length cA, .slice oR rs.length cR]] w) _ _ (by exact ⟨0, G2, oL2, cL2, L2, rfl, Nat.zero_le _, rfl, rfl, hl2, hR2, hS⟩) ((Sub.cons rfl (Sub.cons rfl (Sub.cons rfl (Sub.cons rfl (Sub.cons rfl (Sub.cons rfl Sub.nil))))))) ?_
        clear hS
        rintro e w n ⟨j, G3, oL3, cL3, L3, rfl, hj, rfl, hL3, hl3, hR3, hS⟩
        refine cw_seq ?_
        refine cw_seq ?_
        refine cw_region ?_
        -- r11.0 t36 := move  t9
        refine ol_pure rfl (op_move rfl) ?_
        -- r11.1 t37 := fieldAddr [42, 1] t8
        refine ol_pure rfl (op_fieldAddr fld_42_1 rfl) ?_
        -- r11.2 t38 := load [27] t37
        refine ol_load rfl (op_load1 one_27 rfl (fun w hw => (hw.bcell (i := 0) rfl).trans rfl)) hS ?_
        -- r11.3 t39 := call len t38
        refine ol_pure rfl (op_len sl_27 rfl rfl) ?_
        -- r11.4 t40 := lss t36 t39
        refine ol_pure rfl (op_lss rfl rfl) ?_
        refine ol_nil ?_
        refine pq_then ?_
        refine cw_cond rfl (fun h40 => ?_) (fun h40 => ?_)
        · skip
          try simp only [decide_eq_true_eq, decide_eq_false_iff_not, Bool.not_eq_true', Bool.not_eq_false', Bool.not_eq_eq_eq_not, Bool.not_true, Bool.not_false] at h40
          have hjl : j < rs[k].pos.length := by omega
          obtain ⟨hoj, hcj, hbj⟩ := hp.int hjl
          have hset3 : SetOf atoms.length L3 := by rw [hL3]; exact hset2.puts (fun x hx => hrk.2.1 x (List.mem_of_mem_take hx))
          have hsl3 := hset3.le
          refine cw_skip ?_
          refine pq_then ?_
          refine cw_seq ?_
          refine cw_block ?_
          refine cw_region ?_
          -- r13.0 t43 := move  t5
          refine ol_pure rfl (op_move rfl) ?_
          -- r13.1 t44 := fieldAddr [42, 1] t8
          refine ol_pure rfl (op_fieldAddr fld_42_1 rfl) ?_
          -- r13.2 t45 := load [27] t44
          refine ol_load rfl (op_load1 one_27 rfl (fun w hw => (hw.bcell (i := 0) rfl).trans rfl)) hS ?_
          -- r13.3 t46 := move  t9
          refine ol_pure rfl (op_move rfl) ?_
          -- r13.4 t47 := indexAddr [27] t45 t46
          refine ol_pure rfl (op_indexN sl_27 rfl rfl (by omega) (by assumption)) ?_
          -- r13.5 t48 := load [3] t47
          refine ol_load rfl (op_load1 one_3 rfl (fun w hw => by first | exact hw.gcell (by assumption) | exact hw.gcell0 (by assumption))) hS ?_
          -- r13.6 t49 := call f55 t43 t48
          refine ol_step rfl (op_call_rt hS cf_55 rfl (fun _ => .inr rfl) (fun _ _ _ hl h => h.mono EInt.mono hl) (R16_Put_c _ _ hS.hold _ L3 rs[k].pos[j] hR3 hbj (by have := hset3.le; omega))) ?_
          clear hS
          rintro v49 w ⟨G49, hl49, hR49, hS⟩
          obtain ⟨o49, c_o49, rfl, _, _⟩ := hR49.elim
          -- r13.7 t5 := assign  t49
          refine ol_pure rfl (op_assign rfl) ?_
          refine ol_nil ?_
          refine pq_in_normal ?_
          refine pq_then ?_
          refine cw_region ?_
          -- r12.0 t41 := move  t9
          refine ol_pure rfl (op_move rfl) ?_
          -- r12.1 t42 := add t41 C1
          refine ol_pure rfl (op_add rfl rfl (by omega) (by omega)) ?_
          -- r12.2 t9 := assign  t42
          refine ol_pure rfl (op_assign rfl) ?_
          refine ol_nil ?_
          -- end of round 3 h16t h23t h35f h40t
          refine pq_loop _ _ (by exact ⟨j + 1, G49, o49, c_o49, putI L3 rs[k].pos[j], rfl, by omega, rfl, by rw [puts_snoc _ _ hjl, ← hL3], hl3.trans hl49, hR49, hS⟩) ((Sub.cons rfl (Sub.cons rfl (Sub.cons rfl (Sub.cons rfl (Sub.cons rfl (Sub.cons rfl Sub.nil))))))) (by omega)
        · skip
          try simp only [decide_eq_true_eq, decide_eq_false_iff_not, Bool.not_eq_true', Bool.not_eq_false', Bool.not_eq_eq_eq_not, Bool.not_true, Bool.not_false] at h40
          rw [List.take_of_length_le (show rs[k].pos.length ≤ j by omega)] at hL3
          have hset3 : SetOf atoms.length L3 := by rw [hL3]; exact hset2.puts hrk.2.1
          refine cw_exit ?_
          refine pq_exit ?_
          refine pq_exit ?_
          refine pq_in_exit ?_
          refine pq_then ?_
          refine cw_seq ?_
          refine cw_region ?_
          -- r14.0 t10 := assign  C0
          refine ol_pure rfl (op_assign rfl) ?_
          refine ol_nil ?_
          refine pq_then ?_
          refine cw_block ?_
          refine cw_loop (fun e w n => ∃ i G5 oL5 cL5 L5, e = [(2, .pointer (some ⟨b2, 0, none⟩)), (5, .slice oL5 L5.length cL5), (6, .int .i64 (L.length : Nat)), (7, .int .i64 (k : Nat)), (8, .pointer (some ⟨b8, 0, none⟩)), (10, .int .i64 (i : Nat))] ∧ i ≤ rs[k].neg.length ∧ n = rs[k].neg.length - i ∧ L5 = (rs[k].neg.take i).foldl putI L3 ∧ Le G G5 ∧ RSl 1 EInt G5 (.slice oL5 L5.length cL5) L5 ∧ SS G w0 G5 [.blk b8 42 [.int .i64 rs[k].head, .slice op rs[k].pos.length cp, .slice oq rs[k].neg.length cq], .blk b2 25 [.slice oA atoms.length cA, .slice oR rs.length cR]] w) _ _ (by exact ⟨0, G3, oL3, cL3, L3, rfl, Nat.zero_le _, rfl, rfl, hl3, hR3, hS⟩) ((Sub.cons rfl (Sub.cons rfl (Sub.cons rfl (Sub.cons rfl (Sub.cons rfl (Sub.cons rfl Sub.nil))))))) ?_
          clear hS
          rintro e w n ⟨i, G5, oL5, cL5, L5, rfl, hi, rfl, hL5, hl5, hR5, hS⟩
          refine cw_seq ?_
          refine cw_seq ?_
          refine cw_region ?_
          -- r15.0 t50 := move  t10
          refine ol_pure rfl (op_move rfl) ?_
          -- r15.1 t51 := fieldAddr [42, 2] t8
          refine ol_pure rfl (op_fieldAddr fld_42_2 rfl) ?_
          -- r15.2 t52 := load [27] t51
          refine ol_load rfl (op_load1 one_27 rfl (fun w hw => (hw.bcell (i := 0) rfl).trans rfl)) hS ?_
          -- r15.3 t53 := call len t52
          refine ol_pure rfl (op_len sl_27 rfl rfl) ?_
          -- r15.4 t54 := lss t50 t53
          refine ol_pure rfl (op_lss rfl rfl) ?_
          refine ol_nil ?_
          refine pq_then ?_
          refine cw_cond rfl (fun h54 => ?_) (fun h54 => ?_)
          · skip
            try simp only [decide_eq_true_eq, decide_eq_false_iff_not, Bool.not_eq_true', Bool.not_eq_false', Bool.not_eq_eq_eq_not, Bool.not_true, Bool.not_false] at h54
            have hil : i < rs[k].neg.length := by omega
            obtain ⟨hoi, hci, hbi⟩ := hq.int hil
            have hset5 : SetOf atoms.length L5 := by rw [hL5]; exact hset3.puts (fun x hx => hrk.2.2 x (List.mem_of_mem_take hx))
            have hsl5 := hset5.le
            refine cw_skip ?_
            refine pq_then ?_
            refine cw_seq ?_
            refine cw_block ?_
            refine cw_region ?_
            -- r17.0 t57 := move  t5
            refine ol_pure rfl (op_move rfl) ?_
            -- r17.1 t58 := fieldAddr [42, 2] t8
            refine ol_pure rfl (op_fieldAddr fld_42_2 rfl) ?_
            -- r17.2 t59 := load [27] t58
            refine ol_load rfl (op_load1 one_27 rfl (fun w hw => (hw.bcell (i := 0) rfl).trans rfl)) hS ?_
            -- r17.3 t60 := move  t10
            refine ol_pure rfl (op_move rfl) ?_
            -- r17.4 t61 := indexAddr [27] t59 t60
            refine ol_pure rfl (op_indexN sl_27 rfl rfl (by omega) (by assumption)) ?_
            -- r17.5 t62 := load [3] t61
            refine ol_load rfl (op_load1 one_3 rfl (fun w hw => by first | exact hw.gcell (by assumption) | exact hw.gcell0 (by assumption))) hS ?_
            -- r17.6 t63 := call f55 t57 t62
            refine ol_step rfl (op_call_rt hS cf_55 rfl (fun _ => .inr rfl) (fun _ _ _ hl h => h.mono EInt.mono hl) (R16_Put_c _ _ hS.hold _ L5 rs[k].neg[i] hR5 hbi (by have := hset5.le; omega))) ?_
            clear hS
            rintro v63 w ⟨G63, hl63, hR63, hS⟩
            obtain ⟨o63, c_o63, rfl, _, _⟩ := hR63.elim
            -- r17.7 t5 := assign  t63
            refine ol_pure rfl (op_assign rfl) ?_
            refine ol_nil ?_
            refine pq_in_normal ?_
            refine pq_then ?_
            refine cw_region ?_
            -- r16.0 t55 := move  t10
            refine ol_pure rfl (op_move rfl) ?_
            -- r16.1 t56 := add t55 C1
            refine ol_pure rfl (op_add rfl rfl (by omega) (by omega)) ?_
            -- r16.2 t10 := assign  t56
            refine ol_pure rfl (op_assign rfl) ?_
            refine ol_nil ?_
            -- end of round 4 h16t h23t h35f h40f h54t
            refine pq_loop _ _ (by exact ⟨i + 1, G63, o63, c_o63, putI L5 rs[k].neg[i], rfl, by omega, rfl, by rw [puts_snoc _ _ hil, ← hL5], hl5.trans hl63, hR63, hS⟩) ((Sub.cons rfl (Sub.cons rfl (Sub.cons rfl (Sub.cons rfl (Sub.cons rfl (Sub.cons rfl Sub.nil))))))) (by omega)
          · skip
            try simp only [decide_eq_true_eq, decide_eq_false_iff_not, Bool.not_eq_true', Bool.not_eq_false', Bool.not_eq_eq_eq_not, Bool.not_true, Bool.not_false] at h54
            rw [List.take_of_length_le (show rs[k].neg.length ≤ i by omega)] at hL5
            refine cw_exit ?_
            refine pq_exit ?_
            refine pq_exit ?_
            refine pq_in_exit ?_
            refine pq_in_normal ?_
            refine pq_then ?_
            refine cw_region ?_
            -- r7.0 t24 := move  t7
            refine ol_pure rfl (op_move rfl) ?_
            -- r7.1 t25 := add t24 C1
            refine ol_pure rfl (op_add rfl rfl (by omega) (by omega)) ?_
            -- r7.2 t7 := assign  t25
            refine ol_pure rfl (op_assign rfl) ?_
            refine ol_nil ?_
            -- end of round 2 h16t h23t h35f h40f h54f
            refine pq_loop _ _ (by exact (by replace hS := SS.drop [] hS; exact ⟨k + 1, G5, oL5, cL5, L5, rfl, by omega, rfl, by rw [leadP_snoc _ _ hlt, ← hL2, leadR, if_pos h35, ← hL3]; exact hL5, hl5, hR5, hS⟩)) ((Sub.cons rfl (Sub.cons rfl (Sub.cons rfl (Sub.cons rfl Sub.nil))))) (by omega)
    · skip
      try simp only [decide_eq_true_eq, decide_eq_false_iff_not, Bool.not_eq_true', Bool.not_eq_false', Bool.not_eq_eq_eq_not, Bool.not_true, Bool.not_false] at h23
      rw [List.take_of_length_le (show rs.length ≤ k by omega)] at hL2
      have hup := up_leads rs L
      have hset2 : SetOf atoms.length L2 := by rw [hL2]; exact hset.leads (fun r hr => (hP.rule r hr).1)
      have hul := hup.le
      have hsl2 := hset2.le
      refine cw_exit ?_
      refine pq_exit ?_
      refine pq_exit ?_
      refine pq_in_exit ?_
      refine pq_in_normal ?_
      -- end of round 1 h16t h23f
      refine pq_loop _ _ (by exact ⟨G2, oL2, cL2, L2, L.length, rfl, hset2, by rw [hL2]; exact hul, rfl, (fun he => (by have hee : L2 = L := (by rw [hL2]; exact hup.eq (by rw [← hL2]; exact he.symm)); rw [hee]; exact leads_closed (by rw [← hL2]; exact he.symm))), hl2, hR2, hS⟩) ((Sub.cons rfl (Sub.cons rfl (Sub.cons rfl Sub.nil)))) (by omega)
  · skip
    try simp only [decide_eq_true_eq, decide_eq_false_iff_not, Bool.not_eq_true', Bool.not_eq_false', Bool.not_eq_eq_eq_not, Bool.not_true, Bool.not_false] at h16
    have hsl := hset.le
    refine cw_exit ?_
    refine pq_exit ?_
    refine pq_exit ?_
    refine pq_in_exit ?_
    refine pq_then ?_
    refine cw_seq ?_
    refine cw_region ?_
    -- r18.0 t64 := move  t5
    refine ol_pure rfl (op_move rfl) ?_
    -- r18.1 t4 := assign  t64
    refine ol_pure rfl (op_assign rfl) ?_
    refine ol_nil ?_
    refine pq_then ?_
    refine cw_ret ?_
    refine ret1 rfl rfl ?_
    -- ret1 h16f
    exact hS.rt _ ⟨L, hset, hcl (by omega), hR⟩
set_option maxRecDepth 100000 in

theorem R16_anew_c (G : GH) (w0 : World) (hG : Holds G w0) (v u : Value) (l set : List Int) (h1 : RSl 1 EInt G v l) (h2 : RSl 1 EInt G u set) (hn : l.length ≤ 1000000) (hm : set.length ≤ 1000000) :
    Calls Try.prog 54 #[v, u] w0 (Rt noG w0 (fun G v => RSl 1 EInt G v (l.map (placeI set)))) := by
  obtain ⟨oa, c, rfl, hlc, hcm⟩ := h1.elim
  obtain ⟨ob, d, rfl, hld, hdm⟩ := h2.elim
  refine enter Try.func54 rfl (N := 24) rfl (Nat.le_of_ble_eq_true rfl) ?_
  have hS := SS.init hG
  refine cw_seq ?_
  refine cw_region ?_
  -- r0.0 t4 := assign  C(slice (none Addr) 0 0)
  refine ol_pure rfl (op_assign rfl) ?_
  refine ol_nil ?_
  refine pq_then ?_
  refine cw_seq ?_
  refine cw_region ?_
  -- r1.0 t7 := buildSlice [27, 0] 
  refine ol_step rfl (op_buildSlice (el := 3) (is := []) (xs := []) (sz := 1) (cs := []) hS rfl rfl (fun w => by kernel_rfl) rfl (by decide)) ?_
  clear hS
  rintro _ w ⟨o5, rfl, hS⟩
  -- r1.1 t5 := assign  t7
  refine ol_pure rfl (op_assign rfl) ?_
  refine ol_nil ?_
  refine pq_then ?_
  refine cw_seq ?_
  refine cw_seq ?_
  refine cw_region ?_
  -- r2.0 t6 := assign  C0
  refine ol_pure rfl (op_assign rfl) ?_
  refine ol_nil ?_
  refine pq_then ?_
  refine cw_block ?_
  refine cw_loop (fun e w n => ∃ k o5 l5 c5, e = [(0, .slice oa l.length c), (1, .slice ob set.length d), (5, .slice o5 l5 c5), (6, .int .i64 (k : Nat))] ∧ k ≤ l.length ∧ n = l.length - k ∧ l5 = k ∧ SS G w0 G [.row o5 l5 c5 3 1 (((l.take k).map (placeI set)).map (Value.int .i64))] w) _ _ (by exact ⟨0, o5, 0, _, rfl, Nat.zero_le _, rfl, rfl, hS⟩) ((Sub.cons rfl (Sub.cons rfl (Sub.cons rfl (Sub.cons rfl Sub.nil))))) ?_
  clear hS
  rintro e w n ⟨k, o5, l5, c5, rfl, hk, rfl, hl5, hS⟩
  refine cw_seq ?_
  refine cw_seq ?_
  refine cw_region ?_
  -- r3.0 t8 := move  t6
  refine ol_pure rfl (op_move rfl) ?_
  -- r3.1 t9 := move  t0
  refine ol_pure rfl (op_move rfl) ?_
  -- r3.2 t10 := call len t9
  refine ol_pure rfl (op_len sl_27 rfl rfl) ?_
  -- r3.3 t11 := lss t8 t10
  refine ol_pure rfl (op_lss rfl rfl) ?_
  refine ol_nil ?_
  refine pq_then ?_
  refine cw_cond rfl (fun h11 => ?_) (fun h11 => ?_)
  · skip
    try simp only [decide_eq_true_eq, decide_eq_false_iff_not, Bool.not_eq_true', Bool.not_eq_false', Bool.not_eq_eq_eq_not, Bool.not_true, Bool.not_false] at h11
    have hlt : k < l.length := by omega
    obtain ⟨hoa, hc, hb⟩ := h1.int hlt
    refine cw_skip ?_
    refine pq_then ?_
    refine cw_seq ?_
    refine cw_block ?_
    refine cw_region ?_
    -- r5.0 t14 := move  t5
    refine ol_pure rfl (op_move rfl) ?_
    -- r5.1 t15 := move  t1
    refine ol_pure rfl (op_move rfl) ?_
    -- r5.2 t16 := move  t0
    refine ol_pure rfl (op_move rfl) ?_
    -- r5.3 t17 := move  t6
    refine ol_pure rfl (op_move rfl) ?_
    -- r5.4 t18 := indexAddr [27] t16 t17
    refine ol_pure rfl (op_indexN sl_27 rfl rfl (by omega) (by assumption)) ?_
    -- r5.5 t19 := load [3] t18
    refine ol_load rfl (op_load1 one_3 rfl (fun w hw => by first | exact hw.gcell (by assumption) | exact hw.gcell0 (by assumption))) hS ?_
    -- r5.6 t20 := call f53 t15 t19
    refine ol_step rfl (op_call_sc hS cf_53 rfl (R01_Place_c G _ hS.hold _ set l[k] h2)) ?_
    clear hS
    rintro _ w ⟨rfl, hS⟩
    -- r5.7 t21 := buildSlice [27, 1] 0:t20
    refine ol_step rfl (op_buildSlice (el := 3) (is := [0]) (xs := [.tmp 20]) (sz := 1) (cs := [.int .i64 (placeI set l[k])]) hS rfl rfl (fun w => by kernel_rfl) rfl (by decide)) ?_
    clear hS
    rintro _ w ⟨s21, rfl, hS⟩
    -- r5.8 t22 := call append t14 t21
    refine ol_step rfl (op_append (j := 1) hS sl_27 el_3 rfl rfl rfl rfl rfl rfl (by decide) (hS.news (j := 0) rfl) (by simp [Value.oneCell']) (by omega) (by unfold maxLen; omega)) ?_
    clear hS
    rintro _ w ⟨o5n, c_o5n, rfl, hS⟩; (try simp only [List.nil_append, List.cons_append, List.set] at hS); replace hS := SS.drop [] hS; (try simp only [List.nil_append, List.cons_append] at hS)
    -- r5.9 t5 := assign  t22
    refine ol_pure rfl (op_assign rfl) ?_
    refine ol_nil ?_
    refine pq_in_normal ?_
    refine pq_then ?_
    refine cw_region ?_
    -- r4.0 t12 := move  t6
    refine ol_pure rfl (op_move rfl) ?_
    -- r4.1 t13 := add t12 C1
    refine ol_pure rfl (op_add rfl rfl (by omega) (by omega)) ?_
    -- r4.2 t6 := assign  t13
    refine ol_pure rfl (op_assign rfl) ?_
    refine ol_nil ?_
    -- end of round 1 h11t
    refine pq_loop _ _ (by exact (by
        have he : (l.take (k + 1)).map (placeI set) = (l.take k).map (placeI set) ++ [placeI set l[k]] := by rw [List.take_succ_eq_append_getElem hlt, List.map_append]; rfl
        exact ⟨k + 1, o5n, l5 + 1, c_o5n, rfl, by omega, rfl, by omega, by rw [he]; simpa using hS⟩)) ((Sub.cons rfl (Sub.cons rfl (Sub.cons rfl (Sub.cons rfl Sub.nil))))) (by omega)
  · skip
    try simp only [decide_eq_true_eq, decide_eq_false_iff_not, Bool.not_eq_true', Bool.not_eq_false', Bool.not_eq_eq_eq_not, Bool.not_true, Bool.not_false] at h11
    refine cw_exit ?_
    refine pq_exit ?_
    refine pq_exit ?_
    refine pq_in_exit ?_
    refine pq_then ?_
    refine cw_seq ?_
    refine cw_region ?_
    -- r6.0 t23 := move  t5
    refine ol_pure rfl (op_move rfl) ?_
    -- r6.1 t4 := assign  t23
    refine ol_pure rfl (op_assign rfl) ?_
    refine ol_nil ?_
    refine pq_then ?_
    refine cw_ret ?_
    refine ret1 rfl rfl ?_
    -- ret1 h11f
    rw [List.take_of_length_le (by omega)] at hS
    exact hS.rt_row [] (by decide) (Rows.of_map (fun y hy => ⟨rfl, by obtain ⟨x, _, rfl⟩ := List.mem_map.1 hy; have := place_bound (L := set) x; omega⟩)) EInt.mono (by simp; omega)
set_option maxRecDepth 100000 in
set_option maxHeartbeats 400000 in

theorem R16_Find_c (G : GH) (w0 : World) (hG : Holds G w0) (va vr : Value) (atoms : List (List Cell)) (rs : List Rule) (h1 : RSl 1 EAtom G va atoms) (h2 : RSl 3 ERule G vr rs) (u : Value) (t : List Cell) (h3 : RSl 3 ECell G u t) :
    Calls Try.prog 28 #[.agg #[va, vr], u] w0 (Sc w0 (.int .i64 (findI atoms t))) := by
  obtain ⟨oA, cA, rfl, hlA, hmA⟩ := h1.elim
  obtain ⟨oR, cR, rfl, hlR, hmR⟩ := h2.elim
  have hle := h1.le
  refine enter Try.func28 rfl (N := 21) rfl (Nat.le_of_ble_eq_true rfl) ?_
  have hS := SS.init hG
  refine cw_seq ?_
  refine cw_region ?_
  -- r0.0 t2 := box [25] t0
  refine ol_step rfl (op_box hS rfl rfl) ?_
  clear hS
  rintro _ w ⟨b2, rfl, hS⟩
  -- r0.1 t4 := assign  C0
  refine ol_pure rfl (op_assign rfl) ?_
  refine ol_nil ?_
  refine pq_then ?_
  refine cw_seq ?_
  refine cw_seq ?_
  refine cw_region ?_
  -- r1.0 t5 := assign  C0
  refine ol_pure rfl (op_assign rfl) ?_
  refine ol_nil ?_
  refine pq_then ?_
  refine cw_block ?_
  refine cw_loop (fun e w n => ∃ k : Nat, e = [(1, u), (2, .pointer (some ⟨b2, 0, none⟩)), (5, .int .i64 (k : Nat))] ∧ k ≤ atoms.length ∧ n = atoms.length - k ∧ (∀ (i : Nat) (hi : i < atoms.length), i < k → sameT atoms[i] t = false) ∧ SS G w0 G [.blk b2 25 [.slice oA atoms.length cA, .slice oR rs.length cR]] w) _ _ (by exact ⟨0, rfl, Nat.zero_le _, rfl, (fun i _ h => absurd h (Nat.not_lt_zero _)), hS⟩) ((Sub.cons rfl (Sub.cons rfl (Sub.cons rfl Sub.nil)))) ?_
  clear hS
  rintro e w n ⟨k, rfl, hk, rfl, hno, hS⟩
  refine cw_seq ?_
  refine cw_seq ?_
  refine cw_region ?_
  -- r2.0 t6 := move  t5
  refine ol_pure rfl (op_move rfl) ?_
  -- r2.1 t7 := fieldAddr [25, 0] t2
  refine ol_pure rfl (op_fieldAddr fld_25_0 rfl) ?_
  -- r2.2 t8 := load [22] t7
  refine ol_load rfl (op_load1 one_22 rfl (fun w hw => (hw.bcell (i := 0) rfl).trans rfl)) hS ?_
  -- r2.3 t9 := call len t8
  refine ol_pure rfl (op_len sl_22 rfl rfl) ?_
  -- r2.4 t10 := lss t6 t9
  refine ol_pure rfl (op_lss rfl rfl) ?_
  refine ol_nil ?_
  refine pq_then ?_
  refine cw_cond rfl (fun h10 => ?_) (fun h10 => ?_)
  · skip
    try simp only [decide_eq_true_eq, decide_eq_false_iff_not, Bool.not_eq_true', Bool.not_eq_false', Bool.not_eq_eq_eq_not, Bool.not_true, Bool.not_false] at h10
    have hlt : k < atoms.length := by omega
    obtain ⟨hoa, ob, d, hcell, hat, hd1, hd2⟩ := h1.slAt hlt
    refine cw_skip ?_
    refine pq_then ?_
    refine cw_seq ?_
    refine cw_block ?_
    refine cw_seq ?_
    refine cw_region ?_
    -- r4.0 t13 := fieldAddr [25, 0] t2
    refine ol_pure rfl (op_fieldAddr fld_25_0 rfl) ?_
    -- r4.1 t14 := load [22] t13
    refine ol_load rfl (op_load1 one_22 rfl (fun w hw => (hw.bcell (i := 0) rfl).trans rfl)) hS ?_
    -- r4.2 t15 := move  t5
    refine ol_pure rfl (op_move rfl) ?_
    -- r4.3 t16 := indexAddr [22] t14 t15
    refine ol_pure rfl (op_indexN sl_22 rfl rfl (by omega) (by assumption)) ?_
    -- r4.4 t17 := load [46] t16
    refine ol_load rfl (op_load1 one_46 rfl (fun w hw => hw.gcell hcell)) hS ?_
    -- r4.5 t18 := move  t1
    refine ol_pure rfl (op_move rfl) ?_
    -- r4.6 t19 := call f42 t17 t18
    refine ol_step rfl (op_call_sc hS cf_42 rfl (R01_Same_c G _ hS.hold _ _ atoms[k] t hat h3)) ?_
    clear hS
    rintro _ w ⟨rfl, hS⟩
    refine ol_nil ?_
    refine pq_then ?_
    refine cw_cond rfl (fun h19 => ?_) (fun h19 => ?_)
    · skip
      try simp only [decide_eq_true_eq, decide_eq_false_iff_not, Bool.not_eq_true', Bool.not_eq_false', Bool.not_eq_eq_eq_not, Bool.not_true, Bool.not_false] at h19
      refine cw_seq ?_
      refine cw_region ?_
      -- r5.0 t20 := move  t5
      refine ol_pure rfl (op_move rfl) ?_
      -- r5.1 t4 := assign  t20
      refine ol_pure rfl (op_assign rfl) ?_
      refine ol_nil ?_
      refine pq_then ?_
      refine cw_ret ?_
      refine pq_in_ret ?_
      refine pq_ret ?_
      refine pq_ret ?_
      refine pq_in_ret ?_
      refine pq_ret ?_
      refine ret1 rfl rfl ?_
      -- ret1 h10t h19t
      exact hS.sc_i (findI_at hlt (by simpa using h19) hno).symm
    · skip
      try simp only [decide_eq_true_eq, decide_eq_false_iff_not, Bool.not_eq_true', Bool.not_eq_false', Bool.not_eq_eq_eq_not, Bool.not_true, Bool.not_false] at h19
      refine cw_skip ?_
      refine pq_in_normal ?_
      refine pq_then ?_
      refine cw_region ?_
      -- r3.0 t11 := move  t5
      refine ol_pure rfl (op_move rfl) ?_
      -- r3.1 t12 := add t11 C1
      refine ol_pure rfl (op_add rfl rfl (by omega) (by omega)) ?_
      -- r3.2 t5 := assign  t12
      refine ol_pure rfl (op_assign rfl) ?_
      refine ol_nil ?_
      -- end of round 1 h10t h19f
      refine pq_loop _ _ (by exact ⟨k + 1, rfl, by omega, rfl, (fun i hi hik => by rcases Nat.lt_succ_iff_lt_or_eq.1 hik with hh | rfl; exact hno i hi hh; simpa using h19), hS⟩) ((Sub.cons rfl (Sub.cons rfl (Sub.cons rfl Sub.nil)))) (by omega)
  · skip
    try simp only [decide_eq_true_eq, decide_eq_false_iff_not, Bool.not_eq_true', Bool.not_eq_false', Bool.not_eq_eq_eq_not, Bool.not_true, Bool.not_false] at h10
    refine cw_exit ?_
    refine pq_exit ?_
    refine pq_exit ?_
    refine pq_in_exit ?_
    refine pq_then ?_
    refine cw_seq ?_
    refine cw_region ?_
    -- r6.0 t4 := assign  C-1
    refine ol_pure rfl (op_assign rfl) ?_
    refine ol_nil ?_
    refine pq_then ?_
    refine cw_ret ?_
    refine ret1 rfl rfl ?_
    -- ret2 h10f
    exact hS.sc_i (findI_none (by omega) hno).symm
set_option maxRecDepth 100000 in
set_option maxHeartbeats 2000000 in

theorem R16_Only_c (G : GH) (w0 : World) (hG : Holds G w0) (va vr : Value) (atoms : List (List Cell)) (rs : List Rule) (h1 : RSl 1 EAtom G va atoms) (h2 : RSl 3 ERule G vr rs) (u : Value) (L : List Int) (h3 : RSl 1 EInt G u L) (hP : PrOk atoms.length rs) (hL : SetOf atoms.length L) (hng : ∀ r ∈ rs, r.neg.length ≤ 1000) :
    Calls Try.prog 40 #[.agg #[va, vr], u] w0 (Rt G w0 (fun G v => ∃ va vr, v = .agg #[va, vr] ∧ RSl 1 EAtom G va (onlyA atoms L) ∧ RSl 3 ERule G vr (onlyR rs L))) := by
  obtain ⟨oA, cA, rfl, hlA, hmA⟩ := h1.elim
  obtain ⟨oR, cR, rfl, hlR, hmR⟩ := h2.elim
  have hPn := hP.n_le
  have hPm := hP.m_le
  obtain ⟨oL, cL, rfl, hlL, hmL⟩ := h3.elim
  have hLn := hL.le
  refine enter Try.func40 rfl (N := 64) rfl (Nat.le_of_ble_eq_true rfl) ?_
  have hS := SS.init hG
  refine cw_seq ?_
  refine cw_region ?_
  -- r0.0 t2 := box [25] t0
  refine ol_step rfl (op_box hS rfl rfl) ?_
  clear hS
  rintro _ w ⟨b2, rfl, hS⟩
  -- r0.1 t4 := alloc [25] 
  refine ol_step rfl (op_alloc hS el_25 rfl) ?_
  clear hS
  rintro _ w ⟨b4, rfl, hS⟩
  refine ol_nil ?_
  refine pq_then ?_
  refine cw_seq ?_
  refine cw_region ?_
  -- r1.0 t9 := build [25] 
  refine ol_pure rfl (op_build (is := []) (xs := []) (v := .agg #[.slice none 0 0, .slice none 0 0]) rfl rfl (fun w => by kernel_rfl)) ?_
  -- r1.1 t5 := alloc [25] 
  refine ol_step rfl (op_alloc hS el_25 rfl) ?_
  clear hS
  rintro _ w ⟨b5, rfl, hS⟩
  -- r1.2 _ := store [25] t5 t9
  refine ol_step0  (op_storeN (j := 0) hS sz_25 rfl rfl rfl rfl rfl (by simp [Value.oneCell'])) ?_
  clear hS
  rintro _ w hS; (try simp only [List.nil_append, List.cons_append, List.set] at hS)
  refine ol_nil ?_
  refine pq_then ?_
  refine cw_seq ?_
  refine cw_seq ?_
  refine cw_region ?_
  -- r2.0 t6 := assign  C0
  refine ol_pure rfl (op_assign rfl) ?_
  refine ol_nil ?_
  refine pq_then ?_
  refine cw_block ?_
  replace hS := SS.ins [_, _, _] hS 46 1
  replace hS := SS.ins [_, _, _, _] hS 42 3
  refine cw_loop (fun e w n => ∃ k oa la ca ua, e = [(1, .slice oL L.length cL), (2, .pointer (some ⟨b2, 0, none⟩)), (4, .pointer (some ⟨b4, 0, none⟩)), (5, .pointer (some ⟨b5, 0, none⟩)), (6, .int .i64 (k : Nat))] ∧ k ≤ L.length ∧ n = L.length - k ∧ la = k ∧ Rows 1 EAtom G ua (onlyA atoms (L.take k)) ∧ SS G w0 G [.blk b5 25 [.slice oa la ca, .slice none 0 0], .blk b4 25 [.slice none 0 0, .slice none 0 0], .blk b2 25 [.slice oA atoms.length cA, .slice oR rs.length cR], .row oa la ca 46 1 ua, .row none 0 0 42 3 []] w) _ _ (by exact ⟨0, none, 0, 0, [], rfl, Nat.zero_le _, rfl, rfl, Rows.nil _, hS⟩) ((Sub.cons rfl (Sub.cons rfl (Sub.cons rfl (Sub.cons rfl (Sub.cons rfl Sub.nil)))))) ?_
  clear hS
  rintro e w n ⟨k, oa, la, ca, ua, rfl, hk, rfl, hla, hua, hS⟩
  refine cw_seq ?_
  refine cw_seq ?_
  refine cw_region ?_
  -- r3.0 t10 := move  t6
  refine ol_pure rfl (op_move rfl) ?_
  -- r3.1 t11 := move  t1
  refine ol_pure rfl (op_move rfl) ?_
  -- r3.2 t12 := call len t11
  refine ol_pure rfl (op_len sl_27 rfl rfl) ?_
  -- r3.3 t13 := lss t10 t12
  refine ol_pure rfl (op_lss rfl rfl) ?_
  refine ol_nil ?_
  refine pq_then ?_
  refine cw_cond rfl (fun h13 => ?_) (fun h13 => ?_)
  · skip
    try simp only [decide_eq_true_eq, decide_eq_false_iff_not, Bool.not_eq_true', Bool.not_eq_false', Bool.not_eq_eq_eq_not, Bool.not_true, Bool.not_false] at h13
    have hlt : k < L.length := by omega
    obtain ⟨hoL, hcL, hbL⟩ := h3.int hlt
    have hLk := hL.range _ (List.getElem_mem hlt)
    obtain ⟨x, hxe⟩ := Int.eq_ofNat_of_zero_le hLk.1
    have hxn : x < atoms.length := by omega
    rw [hxe] at hcL
    obtain ⟨hoA, ob, d, hcell, hat, hd1, hd2⟩ := h1.slAt hxn
    refine cw_skip ?_
    refine pq_then ?_
    refine cw_seq ?_
    refine cw_block ?_
    refine al_start' hS (hS.take 3) (by kernel_rfl) rfl (fun w hS hT => ?_)
    -- r5.0 t16 := fieldAddr [25, 0] t5
    refine al_take (i := 0) rfl (by kernel_rfl) (by kernel_rfl) (by kernel_rfl) rfl (fun _ _ _ h => h) (op_fieldAddr fld_25_0 rfl) rfl ?_
    -- r5.1 t17 := load [22] t16
    refine al_load (i := 1) rfl (by kernel_rfl) (by kernel_rfl) (by kernel_rfl) rfl (fun _ _ _ h => h) (by exact op_load1 one_22 rfl (fun w hw => (hw.bcell (i := 0) rfl).trans rfl)) rfl hT ?_
    -- r5.2 t18 := fieldAddr [25, 0] t2
    refine al_take (i := 2) rfl (by kernel_rfl) (by kernel_rfl) (by kernel_rfl) rfl (fun _ _ _ h => h) (op_fieldAddr fld_25_0 rfl) rfl ?_
    -- r5.3 t19 := load [22] t18
    refine al_load (i := 3) rfl (by kernel_rfl) (by kernel_rfl) (by kernel_rfl) rfl (fun _ _ _ h => h) (by exact op_load1 one_22 rfl (fun w hw => (hw.bcell (i := 2) rfl).trans rfl)) rfl hT ?_
    -- r5.4 t20 := move  t1
    refine al_take (i := 4) rfl (by kernel_rfl) (by kernel_rfl) (by kernel_rfl) rfl (fun _ _ _ h => h) (op_move rfl) rfl ?_
    -- r5.5 t21 := move  t6
    refine al_take (i := 5) rfl (by kernel_rfl) (by kernel_rfl) (by kernel_rfl) rfl (fun _ _ _ h => h) (op_move rfl) rfl ?_
    -- r5.6 t22 := indexAddr [27] t20 t21
    refine al_take (i := 6) rfl (by kernel_rfl) (by kernel_rfl) (by kernel_rfl) rfl (fun _ _ _ h => h) (op_indexN sl_27 rfl rfl (by omega) (by assumption)) rfl ?_
    -- r5.7 t23 := load [3] t22
    refine al_load (i := 7) rfl (by kernel_rfl) (by kernel_rfl) (by kernel_rfl) rfl (fun _ _ _ h => h) (by exact op_load1 one_3 rfl (fun w hw => hw.gcell hcL)) rfl hT ?_
    -- r5.8 t24 := indexAddr [22] t19 t23
    refine al_take (i := 8) rfl (by kernel_rfl) (by kernel_rfl) (by kernel_rfl) rfl (fun _ _ _ h => h) (op_indexN sl_22 rfl rfl (by omega) hoA) rfl ?_
    -- r5.9 t25 := load [46] t24
    refine al_load (i := 9) rfl (by kernel_rfl) (by kernel_rfl) (by kernel_rfl) rfl (fun _ _ _ h => h) (by exact op_load1 one_46 rfl (fun w hw => hw.gcell hcell)) rfl hT ?_
    refine al_step (i := 10) rfl (by kernel_rfl) rfl (op_buildSlice (el := 46) (is := [0]) (xs := [.tmp 25]) (sz := 1) (cs := [.slice ob atoms[x].length d]) hS rfl rfl (fun w => by kernel_rfl) rfl (by decide)) ?_
    clear hS
    rintro _ w ⟨s26, rfl, hS⟩
    have hT := hT.back hS (by first | exact Le.refl _ | assumption) (fun x hx => by try simp only [List.take_succ_cons, List.take_zero, List.mem_cons, List.not_mem_nil, or_false] at hx; (rcases hx with rfl | rfl | rfl) <;> simp)
    refine ⟨fun _ _ => hT, ?_⟩
    refine al_step (i := 11) rfl (by kernel_rfl) rfl (op_append (j := 4) hS sl_22 el_46 rfl rfl rfl rfl rfl rfl (by decide) (hS.news (j := 0) rfl) (by simp [Value.oneCell']) (by omega) (by unfold maxLen; omega)) ?_
    clear hS
    rintro _ w ⟨atn, c_atn, rfl, hS⟩; (try simp only [List.nil_append, List.cons_append, List.set] at hS); replace hS := SS.drop [] hS; (try simp only [List.nil_append, List.cons_append] at hS)
    have hT := hT.back hS (by first | exact Le.refl _ | assumption) (fun x hx => by try simp only [List.take_succ_cons, List.take_zero, List.mem_cons, List.not_mem_nil, or_false] at hx; (rcases hx with rfl | rfl | rfl) <;> simp)
    refine ⟨fun _ _ => hT, ?_⟩
    -- r5.12 t28 := fieldAddr [25, 0] t5
    refine al_take (i := 12) rfl (by kernel_rfl) (by kernel_rfl) (by kernel_rfl) rfl (fun _ _ _ h => h) (op_fieldAddr fld_25_0 rfl) rfl ?_
    refine al_step0 (i := 13) rfl (by kernel_rfl) (op_storeB (j := 0) (k := 0) hS sz_22 rfl rfl rfl rfl (by simp)) ?_
    clear hS
    rintro _ w hS; (try simp only [List.nil_append, List.cons_append, List.set] at hS)
    refine ⟨no_need (by kernel_rfl), ?_⟩
    refine al_done (by kernel_rfl) ?_
    refine pq_in_normal ?_
    refine pq_then ?_
    refine cw_region ?_
    -- r4.0 t14 := move  t6
    refine ol_pure rfl (op_move rfl) ?_
    -- r4.1 t15 := add t14 C1
    refine ol_pure rfl (op_add rfl rfl (by omega) (by omega)) ?_
    -- r4.2 t6 := assign  t15
    refine ol_pure rfl (op_assign rfl) ?_
    refine ol_nil ?_
    -- end of round 1 h13t
    refine pq_loop _ _ (by exact ⟨k + 1, atn, la + 1, c_atn, _, rfl, by omega, rfl, by omega, by rw [show onlyA atoms (L.take (k + 1)) = onlyA atoms (L.take k) ++ [atoms[x]] from by rw [onlyA, List.take_succ_eq_append_getElem hlt, List.map_append, hxe]; simp [onlyA, hxn]]; exact hua.snoc rfl ⟨_, rfl, hat⟩, hS⟩) ((Sub.cons rfl (Sub.cons rfl (Sub.cons rfl (Sub.cons rfl (Sub.cons rfl Sub.nil)))))) (by omega)
  · skip
    try simp only [decide_eq_true_eq, decide_eq_false_iff_not, Bool.not_eq_true', Bool.not_eq_false', Bool.not_eq_eq_eq_not, Bool.not_true, Bool.not_false] at h13
    refine cw_exit ?_
    refine pq_exit ?_
    refine pq_exit ?_
    refine pq_in_exit ?_
    refine pq_then ?_
    refine cw_seq ?_
    refine cw_seq ?_
    refine cw_region ?_
    -- r6.0 t7 := assign  C0
    refine ol_pure rfl (op_assign rfl) ?_
    refine ol_nil ?_
    refine pq_then ?_
    refine cw_block ?_
    rw [List.take_of_length_le (show L.length ≤ k by omega)] at hua
    have hla2 : la = L.length := by omega
    clear h13 hla hk
    refine cw_loop (fun e w n => ∃ k Gk or lr cr ur, e = [(1, .slice oL L.length cL), (2, .pointer (some ⟨b2, 0, none⟩)), (4, .pointer (some ⟨b4, 0, none⟩)), (5, .pointer (some ⟨b5, 0, none⟩)), (7, .int .i64 (k : Nat))] ∧ k ≤ rs.length ∧ n = rs.length - k ∧ lr = (onlyR (rs.take k) L).length ∧ Le G Gk ∧ Rows 3 ERule Gk ur (onlyR (rs.take k) L) ∧ SS G w0 Gk [.blk b5 25 [.slice oa la ca, .slice or lr cr], .blk b4 25 [.slice none 0 0, .slice none 0 0], .blk b2 25 [.slice oA atoms.length cA, .slice oR rs.length cR], .row oa la ca 46 1 ua, .row or lr cr 42 3 ur] w) _ _ (by exact ⟨0, G, none, 0, 0, [], rfl, Nat.zero_le _, rfl, rfl, Le.refl _, Rows.nil _, hS⟩) ((Sub.cons rfl (Sub.cons rfl (Sub.cons rfl (Sub.cons rfl (Sub.cons rfl Sub.nil)))))) ?_
    clear hS
    rintro e w n ⟨k, Gk, or, lr, cr, ur, rfl, hk, rfl, hlr, hl2, hrw, hS⟩
    refine cw_seq ?_
    refine cw_seq ?_
    refine cw_region ?_
    -- r7.0 t29 := move  t7
    refine ol_pure rfl (op_move rfl) ?_
    -- r7.1 t30 := fieldAddr [25, 1] t2
    refine ol_pure rfl (op_fieldAddr fld_25_1 rfl) ?_
    -- r7.2 t31 := load [23] t30
    refine ol_load rfl (op_load1 one_23 rfl (fun w hw => (hw.bcell (i := 2) rfl).trans rfl)) hS ?_
    -- r7.3 t32 := call len t31
    refine ol_pure rfl (op_len sl_23 rfl rfl) ?_
    -- r7.4 t33 := lss t29 t32
    refine ol_pure rfl (op_lss rfl rfl) ?_
    refine ol_nil ?_
    refine pq_then ?_
    refine cw_cond rfl (fun h33 => ?_) (fun h33 => ?_)
    · skip
      try simp only [decide_eq_true_eq, decide_eq_false_iff_not, Bool.not_eq_true', Bool.not_eq_false', Bool.not_eq_eq_eq_not, Bool.not_true, Bool.not_false] at h33
      have hlt : k < rs.length := by omega
      have hrk := (hP.rule _ (List.getElem_mem hlt)).1
      obtain ⟨hoa, cs, hcl, ⟨p, q, rfl, hp, hq, hhd⟩, hcells⟩ := h2.el hlt
      obtain ⟨op, cp, hpe, hlp, hmp⟩ := hp.elim
      obtain ⟨oq, cq, hqe, hlq, hmq⟩ := hq.elim
      subst hpe
      subst hqe
      have hrl := hrw.1
      have hpl := (hP.rule _ (List.getElem_mem hlt)).2
      have hnl := hng _ (List.getElem_mem hlt)
      have hol : (onlyR (rs.take k) L).length ≤ rs.length := by
        unfold onlyR
        rw [List.length_map]
        exact filter_take_len _ _ _
      refine cw_skip ?_
      refine pq_then ?_
      refine cw_seq ?_
      refine cw_block ?_
      refine cw_seq ?_
      refine cw_region ?_
      -- r9.0 t36 := fieldAddr [25, 1] t2
      refine ol_pure rfl (op_fieldAddr fld_25_1 rfl) ?_
      -- r9.1 t37 := load [23] t36
      refine ol_load rfl (op_load1 one_23 rfl (fun w hw => (hw.bcell (i := 2) rfl).trans rfl)) hS ?_
      -- r9.2 t38 := move  t7
      refine ol_pure rfl (op_move rfl) ?_
      -- r9.3 t39 := indexAddr [23] t37 t38
      refine ol_pure rfl (op_indexN sl_23 rfl rfl (by omega) (by assumption)) ?_
      -- r9.4 t40 := load [42] t39
      refine ol_load rfl (op_loadN agg_42 rfl (by rfl) (fun w hw k u hk => hw.gcell0 (hcells k u hk))) hS ?_
      -- r9.5 t8 := alloc [42] 
      refine ol_step rfl (op_alloc hS el_42 rfl) ?_
      clear hS
      rintro _ w ⟨b8, rfl, hS⟩
      -- r9.6 _ := store [42] t8 t40
      refine ol_step0  (op_storeN (j := 0) hS sz_42 rfl rfl rfl rfl rfl (by simp [Value.oneCell'])) ?_
      clear hS
      rintro _ w hS; (try simp only [List.nil_append, List.cons_append, List.set] at hS)
      refine ol_nil ?_
      refine pq_then ?_
      refine cw_seq ?_
      refine cw_region ?_
      -- r10.0 t41 := move  t1
      refine ol_pure rfl (op_move rfl) ?_
      -- r10.1 t42 := fieldAddr [42, 0] t8
      refine ol_pure rfl (op_fieldAddr fld_42_0 rfl) ?_
      -- r10.2 t43 := load [3] t42
      refine ol_load rfl (op_load1 one_3 rfl (fun w hw => (hw.bcell (i := 0) rfl).trans rfl)) hS ?_
      -- r10.3 t44 := call f52 t41 t43
      refine ol_step rfl (op_call_sc hS cf_52 rfl (R01_In_c _ _ hS.hold _ L rs[k].head (h3.mono EInt.mono hl2))) ?_
      clear hS
      rintro _ w ⟨rfl, hS⟩
      refine ol_nil ?_
      refine pq_then ?_
      refine cw_cond rfl (fun h44 => ?_) (fun h44 => ?_)
      · skip
        try simp only [decide_eq_true_eq, decide_eq_false_iff_not, Bool.not_eq_true', Bool.not_eq_false', Bool.not_eq_eq_eq_not, Bool.not_true, Bool.not_false] at h44
        refine al_start' hS (hS.take 2) (by kernel_rfl) rfl (fun w hS hT => ?_)
        -- r11.0 t45 := fieldAddr [25, 1] t5
        refine al_take (i := 0) rfl (by kernel_rfl) (by kernel_rfl) (by kernel_rfl) rfl (fun _ _ _ h => h) (op_fieldAddr fld_25_1 rfl) rfl ?_
        -- r11.1 t46 := load [23] t45
        refine al_load (i := 1) rfl (by kernel_rfl) (by kernel_rfl) (by kernel_rfl) rfl (fun _ _ _ h => h) (by exact op_load1 one_23 rfl (fun w hw => (hw.bcell (i := 1) rfl).trans rfl)) rfl hT ?_
        -- r11.2 t47 := move  t1
        refine al_take (i := 2) rfl (by kernel_rfl) (by kernel_rfl) (by kernel_rfl) rfl (fun _ _ _ h => h) (op_move rfl) rfl ?_
        -- r11.3 t48 := fieldAddr [42, 0] t8
        refine al_take (i := 3) rfl (by kernel_rfl) (by kernel_rfl) (by kernel_rfl) rfl (fun _ _ _ h => h) (op_fieldAddr fld_42_0 rfl) rfl ?_
        -- r11.4 t49 := load [3] t48
        refine al_load (i := 4) rfl (by kernel_rfl) (by kernel_rfl) (by kernel_rfl) rfl (fun _ _ _ h => h) (by exact op_load1 one_3 rfl (fun w hw => (hw.bcell (i := 0) rfl).trans rfl)) rfl hT ?_
        -- r11.6 t51 := fieldAddr [42, 1] t8
        refine al_take (i := 6) rfl (by kernel_rfl) (by kernel_rfl) (by kernel_rfl) rfl (fun _ _ _ h => h) (op_fieldAddr fld_42_1 rfl) rfl ?_
        -- r11.7 t52 := load [27] t51
        refine al_load (i := 7) rfl (by kernel_rfl) (by kernel_rfl) (by kernel_rfl) rfl (fun _ _ _ h => h) (by exact op_load1 one_27 rfl (fun w hw => (hw.bcell (i := 0) rfl).trans rfl)) rfl hT ?_
        -- r11.8 t53 := move  t1
        refine al_take (i := 8) rfl (by kernel_rfl) (by kernel_rfl) (by kernel_rfl) rfl (fun _ _ _ h => h) (op_move rfl) rfl ?_
        -- r11.10 t55 := fieldAddr [42, 2] t8
        refine al_take (i := 10) rfl (by kernel_rfl) (by kernel_rfl) (by kernel_rfl) rfl (fun _ _ _ h => h) (op_fieldAddr fld_42_2 rfl) rfl ?_
        -- r11.11 t56 := load [27] t55
        refine al_load (i := 11) rfl (by kernel_rfl) (by kernel_rfl) (by kernel_rfl) rfl (fun _ _ _ h => h) (by exact op_load1 one_27 rfl (fun w hw => (hw.bcell (i := 0) rfl).trans rfl)) rfl hT ?_
        -- r11.12 t57 := move  t1
        refine al_take (i := 12) rfl (by kernel_rfl) (by kernel_rfl) (by kernel_rfl) rfl (fun _ _ _ h => h) (op_move rfl) rfl ?_
        refine al_step (i := 5) rfl (by kernel_rfl) rfl (op_call_sc hS cf_53 rfl (R01_Place_c _ _ hS.hold _ L rs[k].head (h3.mono EInt.mono hl2))) ?_
        clear hS
        rintro _ w ⟨rfl, hS⟩
        have hT := hT.back hS (by first | exact Le.refl _ | assumption) (fun x hx => by try simp only [List.take_succ_cons, List.take_zero, List.mem_cons, List.not_mem_nil, or_false] at hx; (rcases hx with rfl | rfl) <;> simp)
        refine ⟨fun _ _ => hT, ?_⟩
        refine al_step (i := 9) rfl (by kernel_rfl) rfl (op_call_fr hS cf_54 rfl (R16_anew_c _ _ hS.hold _ _ _ L (hp.mono EInt.mono hl2) (h3.mono EInt.mono hl2) (by omega) (by omega))) ?_
        clear hS
        rintro v54 w ⟨F54, G54, hR54, hF54, hf54, hl54, hS⟩
        obtain ⟨o54, c54, rfl, _, _⟩ := hR54.elim
        have hT := hT.back hS (by first | exact Le.refl _ | assumption) (fun x hx => by try simp only [List.take_succ_cons, List.take_zero, List.mem_cons, List.not_mem_nil, or_false] at hx; (rcases hx with rfl | rfl) <;> simp)
        refine ⟨fun _ _ => hT, ?_⟩
        refine al_step (i := 13) rfl (by kernel_rfl) rfl (op_call_fr hS cf_54 rfl (R16_anew_c _ _ hS.hold _ _ _ L ((hq.mono EInt.mono hl2).mono EInt.mono hl54) ((h3.mono EInt.mono hl2).mono EInt.mono hl54) (by omega) (by omega))) ?_
        clear hS
        rintro v58 w ⟨F58, G58, hR58, hF58, hf58, hl58, hS⟩
        obtain ⟨o58, c58, rfl, _, _⟩ := hR58.elim
        have hj58 := hl54.trans hl58
        have hT := hT.back hS (by first | exact Le.refl _ | assumption) (fun x hx => by try simp only [List.take_succ_cons, List.take_zero, List.mem_cons, List.not_mem_nil, or_false] at hx; (rcases hx with rfl | rfl) <;> simp)
        refine ⟨fun _ _ => hT, ?_⟩
        -- r11.14 t59 := build [42] 0:t50 1:t54 2:t58
        refine al_take (i := 14) rfl (by kernel_rfl) (by kernel_rfl) (by kernel_rfl) rfl (fun _ _ _ h => h) (op_build (is := [0, 1, 2]) (xs := [.tmp 50, .tmp 54, .tmp 58]) (v := .agg #[.int .i64 (placeI L rs[k].head), .slice o54 (rs[k].pos.map (placeI L)).length c54, .slice o58 (rs[k].neg.map (placeI L)).length c58]) rfl rfl (fun w => by kernel_rfl)) rfl ?_
        refine al_step (i := 15) rfl (by kernel_rfl) rfl (op_buildSlice (el := 42) (is := [0]) (xs := [.tmp 59]) (sz := 3) (cs := [.int .i64 (placeI L rs[k].head), .slice o54 (rs[k].pos.map (placeI L)).length c54, .slice o58 (rs[k].neg.map (placeI L)).length c58]) hS rfl rfl (fun w => by kernel_rfl) rfl (by decide)) ?_
        clear hS
        rintro _ w ⟨s60, rfl, hS⟩
        have hT := hT.back hS (by first | exact Le.refl _ | assumption) (fun x hx => by try simp only [List.take_succ_cons, List.take_zero, List.mem_cons, List.not_mem_nil, or_false] at hx; (rcases hx with rfl | rfl) <;> simp)
        refine ⟨fun _ _ => hT, ?_⟩
        refine al_step (i := 16) rfl (by kernel_rfl) rfl (op_append (j := 6) hS sl_23 el_42 rfl rfl rfl rfl rfl rfl (by decide) (hS.news (j := 0) rfl) (by simp [Value.oneCell']) (by omega) (by unfold maxLen; omega)) ?_
        clear hS
        rintro _ w ⟨run, c_run, rfl, hS⟩; (try simp only [List.nil_append, List.cons_append, List.set] at hS); replace hS := SS.drop [] hS; (try simp only [List.nil_append, List.cons_append] at hS)
        have hT := hT.back hS (by first | exact Le.refl _ | assumption) (fun x hx => by try simp only [List.take_succ_cons, List.take_zero, List.mem_cons, List.not_mem_nil, or_false] at hx; (rcases hx with rfl | rfl) <;> simp)
        refine ⟨fun _ _ => hT, ?_⟩
        -- r11.17 t62 := fieldAddr [25, 1] t5
        refine al_take (i := 17) rfl (by kernel_rfl) (by kernel_rfl) (by kernel_rfl) rfl (fun _ _ _ h => h) (op_fieldAddr fld_25_1 rfl) rfl ?_
        refine al_step0 (i := 18) rfl (by kernel_rfl) (op_storeB (j := 1) (k := 1) hS sz_23 rfl rfl rfl rfl (by simp)) ?_
        clear hS
        rintro _ w hS; (try simp only [List.nil_append, List.cons_append, List.set] at hS)
        refine ⟨no_need (by kernel_rfl), ?_⟩
        refine al_done (by kernel_rfl) ?_
        refine pq_in_normal ?_
        refine pq_then ?_
        refine cw_region ?_
        -- r8.0 t34 := move  t7
        refine ol_pure rfl (op_move rfl) ?_
        -- r8.1 t35 := add t34 C1
        refine ol_pure rfl (op_add rfl rfl (by omega) (by omega)) ?_
        -- r8.2 t7 := assign  t35
        refine ol_pure rfl (op_assign rfl) ?_
        refine ol_nil ?_
        -- end of round 2 h13f h33t h44t
        refine pq_loop _ _ (by exact (by
            replace hS := SS.drop [] hS
            have hf : onlyR (rs.take (k + 1)) L = onlyR (rs.take k) L ++ [renR L rs[k]] := by
              unfold onlyR
              rw [filter_take_t _ rs k hlt (by simpa using h44), List.map_append]
              rfl
            exact ⟨k + 1, G58, run, lr + 1, c_run, _, rfl, by omega, rfl, by rw [hf]; simp [hlr], hl2.trans hj58, by
              rw [hf]
              exact (hrw.mono ERule.mono hj58).snoc (x := renR L rs[k]) rfl ⟨_, _, rfl, (hR54.mono EInt.mono hf54).mono EInt.mono hl58, hR58.mono EInt.mono hf58, by have := place_bound (L := L) rs[k].head; show -9223372036854775808 ≤ placeI L rs[k].head ∧ placeI L rs[k].head ≤ 9223372036854775807; omega⟩, hS⟩)) ((Sub.cons rfl (Sub.cons rfl (Sub.cons rfl (Sub.cons rfl (Sub.cons rfl Sub.nil)))))) (by omega)
      · skip
        try simp only [decide_eq_true_eq, decide_eq_false_iff_not, Bool.not_eq_true', Bool.not_eq_false', Bool.not_eq_eq_eq_not, Bool.not_true, Bool.not_false] at h44
        refine cw_skip ?_
        refine pq_in_normal ?_
        refine pq_then ?_
        refine cw_region ?_
        -- r8.0 t34 := move  t7
        refine ol_pure rfl (op_move rfl) ?_
        -- r8.1 t35 := add t34 C1
        refine ol_pure rfl (op_add rfl rfl (by omega) (by omega)) ?_
        -- r8.2 t7 := assign  t35
        refine ol_pure rfl (op_assign rfl) ?_
        refine ol_nil ?_
        -- end of round 2 h13f h33t h44f
        refine pq_loop _ _ (by exact (by
            replace hS := SS.drop [] hS
            have hf : onlyR (rs.take (k + 1)) L = onlyR (rs.take k) L := by
              unfold onlyR
              rw [filter_take_f _ rs k hlt (by simpa using h44)]
            exact ⟨k + 1, Gk, or, lr, cr, ur, rfl, by omega, rfl, by rw [hf]; exact hlr, hl2, by rw [hf]; exact hrw, hS⟩)) ((Sub.cons rfl (Sub.cons rfl (Sub.cons rfl (Sub.cons rfl (Sub.cons rfl Sub.nil)))))) (by omega)
    · skip
      try simp only [decide_eq_true_eq, decide_eq_false_iff_not, Bool.not_eq_true', Bool.not_eq_false', Bool.not_eq_eq_eq_not, Bool.not_true, Bool.not_false] at h33
      refine cw_exit ?_
      refine pq_exit ?_
      refine pq_exit ?_
      refine pq_in_exit ?_
      refine pq_then ?_
      refine cw_seq ?_
      refine cw_region ?_
      -- r12.0 t63 := load [25] t5
      refine ol_load rfl (op_loadN agg_25 rfl (by rfl) (fun w hw k u hk => (hw.bcell (i := 0) rfl).trans hk)) hS ?_
      -- r12.1 _ := store [25] t4 t63
      refine ol_step0  (op_storeN (j := 1) hS sz_25 rfl rfl rfl rfl rfl (by simp [Value.oneCell'])) ?_
      clear hS
      rintro _ w hS; (try simp only [List.nil_append, List.cons_append, List.set] at hS)
      refine ol_nil ?_
      refine pq_then ?_
      refine cw_ret ?_
      refine retN rfl agg_25 rfl (by rfl) (fun k u hk => (hS.bcell (i := 1) rfl).trans hk) ?_
      -- ret1 h13f h33f
      rw [List.take_of_length_le (show rs.length ≤ k by omega)] at hlr hrw
      obtain ⟨G1, hl1, hS1, hA1⟩ := SS.give (zs := onlyA atoms L) [_, _, _] hS (by decide) EAtom.mono (hua.mono EAtom.mono hl2) (by simp [onlyA]; omega)
      obtain ⟨G3, hl3, hS3, hR3⟩ := SS.give (zs := onlyR rs L) [_, _, _] hS1 (by decide) ERule.mono (hrw.mono ERule.mono hl1) hlr
      exact hS3.rt _ ⟨_, _, rfl, hA1.mono EAtom.mono hl3, hR3⟩
set_option maxRecDepth 100000 in
set_option maxHeartbeats 400000 in

theorem R16_Cut_c (G : GH) (w0 : World) (hG : Holds G w0) (va vr : Value) (atoms : List (List Cell)) (rs : List Rule) (h1 : RSl 1 EAtom G va atoms) (h2 : RSl 3 ERule G vr rs) (a : Nat) (ha : a < atoms.length) (hP : PrOk atoms.length rs) (hng : ∀ r ∈ rs, r.neg.length ≤ 1000) :
    Calls Try.prog 27 #[.agg #[va, vr], .int .i64 (a : Nat)] w0 (Rt G w0 (fun G v => ∃ L, SetOf atoms.length L ∧ Closed rs L ∧ ∃ va vr, v = .agg #[va, vr] ∧ RSl 1 EAtom G va (onlyA atoms L) ∧ RSl 3 ERule G vr (onlyR rs L))) := by
  obtain ⟨oA, cA, rfl, hlA, hmA⟩ := h1.elim
  obtain ⟨oR, cR, rfl, hlR, hmR⟩ := h2.elim
  refine enter Try.func27 rfl (N := 20) rfl (Nat.le_of_ble_eq_true rfl) ?_
  have hS := SS.init hG
  refine cw_seq ?_
  refine cw_region ?_
  -- r0.0 t2 := box [25] t0
  refine ol_step rfl (op_box hS rfl rfl) ?_
  clear hS
  rintro _ w ⟨b2, rfl, hS⟩
  -- r0.1 t4 := alloc [25] 
  refine ol_step rfl (op_alloc hS el_25 rfl) ?_
  clear hS
  rintro _ w ⟨b4, rfl, hS⟩
  refine ol_nil ?_
  refine pq_then ?_
  refine cw_seq ?_
  refine cw_seq ?_
  refine cw_region ?_
  -- r1.0 t5 := move  t1
  refine ol_pure rfl (op_move rfl) ?_
  -- r1.1 t6 := lss t5 C0
  refine ol_pure rfl (op_lss rfl rfl) ?_
  -- r1.2 t7 := move  t6
  refine ol_pure rfl (op_move rfl) ?_
  refine ol_split (fun h7 => ?_) (fun h7 => ?_)
  · skip
    try simp only [decide_eq_true_eq, decide_eq_false_iff_not, Bool.not_eq_true', Bool.not_eq_false', Bool.not_eq_eq_eq_not, Bool.not_true, Bool.not_false] at h7
    refine ol_guard_no rfl rfl rfl rfl ?_
    refine ol_guard_no rfl rfl rfl rfl ?_
    refine ol_guard_no rfl rfl rfl rfl ?_
    refine ol_guard_no rfl rfl rfl rfl ?_
    refine ol_guard_no rfl rfl rfl rfl ?_
    -- r1.8 t13 := pick  t7 Ctrue t12
    refine ol_pure rfl (op_pick_t rfl rfl) ?_
    refine ol_nil ?_
    refine pq_then ?_
    refine cw_cond_t rfl ?_
    refine cw_seq ?_
    refine cw_region ?_
    -- r2.0 t14 := build [25] 
    refine ol_pure rfl (op_build (is := []) (xs := []) (v := .agg #[.slice none 0 0, .slice none 0 0]) rfl rfl (fun w => by kernel_rfl)) ?_
    -- r2.1 _ := store [25] t4 t14
    refine ol_step0  (op_storeN (j := 0) hS sz_25 rfl rfl rfl rfl rfl (by simp [Value.oneCell'])) ?_
    clear hS
    rintro _ w hS; (try simp only [List.nil_append, List.cons_append, List.set] at hS)
    refine ol_nil ?_
    refine pq_then ?_
    refine cw_ret ?_
    refine pq_ret ?_
    refine retN rfl agg_25 rfl (by rfl) (fun k u hk => (hS.bcell (i := 0) rfl).trans hk) ?_
    -- ret1 h7t
    exact (by omega : False).elim
  · skip
    try simp only [decide_eq_true_eq, decide_eq_false_iff_not, Bool.not_eq_true', Bool.not_eq_false', Bool.not_eq_eq_eq_not, Bool.not_true, Bool.not_false] at h7
    -- r1.3 t8 := move  t1 ?2=False
    refine ol_guard_pure rfl rfl rfl (op_move rfl) ?_
    -- r1.4 t9 := fieldAddr [25, 0] t2 ?2=False
    refine ol_guard_pure rfl rfl rfl (op_fieldAddr fld_25_0 rfl) ?_
    -- r1.5 t10 := load [22] t9 ?2=False
    refine ol_guard_load rfl rfl rfl (op_load1 one_22 rfl (fun w hw => (hw.bcell (i := 1) rfl).trans rfl)) hS ?_
    -- r1.6 t11 := call len t10 ?2=False
    refine ol_guard_pure rfl rfl rfl (op_len sl_22 rfl rfl) ?_
    -- r1.7 t12 := geq t8 t11 ?2=False
    refine ol_guard_pure rfl rfl rfl (op_geq rfl rfl) ?_
    -- r1.8 t13 := pick  t7 Ctrue t12
    refine ol_pure rfl (op_pick_f rfl rfl) ?_
    refine ol_nil ?_
    refine pq_then ?_
    refine cw_cond rfl (fun h13 => ?_) (fun h13 => ?_)
    · skip
      try simp only [decide_eq_true_eq, decide_eq_false_iff_not, Bool.not_eq_true', Bool.not_eq_false', Bool.not_eq_eq_eq_not, Bool.not_true, Bool.not_false] at h13
      refine cw_seq ?_
      refine cw_region ?_
      -- r2.0 t14 := build [25] 
      refine ol_pure rfl (op_build (is := []) (xs := []) (v := .agg #[.slice none 0 0, .slice none 0 0]) rfl rfl (fun w => by kernel_rfl)) ?_
      -- r2.1 _ := store [25] t4 t14
      refine ol_step0  (op_storeN (j := 0) hS sz_25 rfl rfl rfl rfl rfl (by simp [Value.oneCell'])) ?_
      clear hS
      rintro _ w hS; (try simp only [List.nil_append, List.cons_append, List.set] at hS)
      refine ol_nil ?_
      refine pq_then ?_
      refine cw_ret ?_
      refine pq_ret ?_
      refine retN rfl agg_25 rfl (by rfl) (fun k u hk => (hS.bcell (i := 0) rfl).trans hk) ?_
      -- ret1 h7f h13t
      exact (by omega : False).elim
    · skip
      try simp only [decide_eq_true_eq, decide_eq_false_iff_not, Bool.not_eq_true', Bool.not_eq_false', Bool.not_eq_eq_eq_not, Bool.not_true, Bool.not_false] at h13
      refine cw_skip ?_
      refine pq_then ?_
      refine cw_seq ?_
      refine al_start' hS (hS.take 2) (by kernel_rfl) rfl (fun w hS hT => ?_)
      -- r3.0 t15 := load [25] t2
      refine al_load (i := 0) rfl (by kernel_rfl) (by kernel_rfl) (by kernel_rfl) rfl (fun _ _ _ h => h) (by exact op_loadN agg_25 rfl (by rfl) (fun w hw k u hk => (hw.bcell (i := 1) rfl).trans hk)) rfl hT ?_
      -- r3.1 t16 := load [25] t2
      refine al_load (i := 1) rfl (by kernel_rfl) (by kernel_rfl) (by kernel_rfl) rfl (fun _ _ _ h => h) (by exact op_loadN agg_25 rfl (by rfl) (fun w hw k u hk => (hw.bcell (i := 1) rfl).trans hk)) rfl hT ?_
      -- r3.2 t17 := move  t1
      refine al_take (i := 2) rfl (by kernel_rfl) (by kernel_rfl) (by kernel_rfl) rfl (fun _ _ _ h => h) (op_move rfl) rfl ?_
      refine al_step (i := 3) rfl (by kernel_rfl) rfl (op_call_rt hS cf_41 rfl (fun _ => .inr rfl) (fun _ _ _ hl ⟨L, h1, h2, h3⟩ => ⟨L, h1, h2, h3.mono EInt.mono hl⟩) (R16_Leads_c _ _ hS.hold _ _ atoms rs h1 h2 hP a ha)) ?_
      clear hS
      rintro v18 w ⟨G18, hl18, hR18, hS⟩
      obtain ⟨L, hset, hcl, hRL⟩ := hR18
      have hT := hT.back hS (by first | exact Le.refl _ | assumption) (fun x hx => by try simp only [List.take_succ_cons, List.take_zero, List.mem_cons, List.not_mem_nil, or_false] at hx; (rcases hx with rfl | rfl) <;> simp)
      refine ⟨fun _ _ => hT, ?_⟩
      refine al_step (i := 4) rfl (by kernel_rfl) rfl (op_call_rt hS cf_40 rfl (fun _ => .inr rfl) (fun _ _ _ hl ⟨a, b, h1, h2, h3⟩ => ⟨a, b, h1, h2.mono EAtom.mono hl, h3.mono ERule.mono hl⟩) (R16_Only_c _ _ hS.hold _ _ atoms rs (h1.mono EAtom.mono hl18) (h2.mono ERule.mono hl18) _ L hRL hP hset hng)) ?_
      clear hS
      rintro v19 w ⟨G19, hl19, hR19, hS⟩
      obtain ⟨va, vr, rfl, hRa, hRr⟩ := hR19
      obtain ⟨oa2, ca2, rfl, _, _⟩ := hRa.elim
      obtain ⟨or2, cr2, rfl, _, _⟩ := hRr.elim
      have hj19 := hl18.trans hl19
      have hT := hT.back hS (by first | exact Le.refl _ | assumption) (fun x hx => by try simp only [List.take_succ_cons, List.take_zero, List.mem_cons, List.not_mem_nil, or_false] at hx; (rcases hx with rfl | rfl) <;> simp)
      refine ⟨fun _ _ => hT, ?_⟩
      refine al_step0 (i := 5) rfl (by kernel_rfl) (op_storeN (j := 0) hS sz_25 rfl rfl rfl rfl rfl (by simp [Value.oneCell'])) ?_
      clear hS
      rintro _ w hS; (try simp only [List.nil_append, List.cons_append, List.set] at hS)
      refine ⟨no_need (by kernel_rfl), ?_⟩
      refine al_done (by kernel_rfl) ?_
      refine pq_then ?_
      refine cw_ret ?_
      refine retN rfl agg_25 rfl (by rfl) (fun k u hk => (hS.bcell (i := 0) rfl).trans hk) ?_
      -- ret2 h7f h13f
      exact hS.rt _ ⟨L, hset, hcl, _, _, rfl, hRa, hRr⟩
set_option maxRecDepth 100000 in
set_option maxHeartbeats 2000000 in

theorem L17_WfmAlone_c (G : GH) (w0 : World) (hG : Holds G w0) (va vr : Value) (atoms : List (List Cell)) (rs : List Rule) (h1 : RSl 1 EAtom G va atoms) (h2 : RSl 3 ERule G vr rs) (z : Int) (hz : 0 ≤ z ∧ z ≤ 255) :
    Calls Try.prog 10 #[.agg #[va, vr], .int .u8 z] w0 (Sc w0 (.bool true)) := by
  obtain ⟨oA, cA, rfl, hlA, hmA⟩ := h1.elim
  obtain ⟨oR, cR, rfl, hlR, hmR⟩ := h2.elim
  refine enter Try.func10 rfl (N := 75) rfl (Nat.le_of_ble_eq_true rfl) ?_
  have hS := SS.init hG
  refine cw_seq ?_
  refine cw_region ?_
  -- r0.0 t2 := box [25] t0
  refine ol_step rfl (op_box hS rfl rfl) ?_
  clear hS
  rintro _ w ⟨b2, rfl, hS⟩
  -- r0.1 t4 := assign  Cfalse
  refine ol_pure rfl (op_assign rfl) ?_
  refine ol_nil ?_
  refine pq_then ?_
  refine cw_seq ?_
  refine cw_region ?_
  -- r1.0 t11 := call f12 
  refine ol_step rfl (op_call_sc hS cf_12 rfl (L17_head_c G _ hS.hold)) ?_
  clear hS
  rintro _ w ⟨rfl, hS⟩
  -- r1.1 t5 := assign  t11
  refine ol_pure rfl (op_assign rfl) ?_
  refine ol_nil ?_
  refine pq_then ?_
  refine cw_seq ?_
  refine cw_seq ?_
  refine cw_region ?_
  -- r2.0 t12 := load [25] t2
  refine ol_load rfl (op_loadN agg_25 rfl (by rfl) (fun w hw k u hk => (hw.bcell (i := 0) rfl).trans hk)) hS ?_
  -- r2.1 t13 := call f13 t12
  refine ol_step rfl (op_call_sc hS cf_13 rfl (L17_may_c G _ hS.hold _ _ atoms rs h1 h2)) ?_
  clear hS
  rintro _ w ⟨rfl, hS⟩
  -- r2.2 t14 := not t13
  refine ol_pure rfl (op_not rfl) ?_
  -- r2.3 t15 := move  t14
  refine ol_pure rfl (op_move rfl) ?_
  refine ol_split (fun h15 => ?_) (fun h15 => ?_)
  · skip
    try simp only [decide_eq_true_eq, decide_eq_false_iff_not, Bool.not_eq_true', Bool.not_eq_false', Bool.not_eq_eq_eq_not, Bool.not_true, Bool.not_false] at h15
    refine ol_guard_no rfl rfl rfl rfl ?_
    refine ol_guard_no rfl rfl rfl rfl ?_
    refine ol_guard_no rfl rfl rfl rfl ?_
    refine ol_guard_no rfl rfl rfl rfl ?_
    -- r2.8 t20 := pick  t15 Ctrue t19
    refine ol_pure rfl (op_pick_t rfl rfl) ?_
    refine ol_nil ?_
    refine pq_then ?_
    refine cw_cond_t rfl ?_
    refine cw_seq ?_
    refine cw_region ?_
    -- r3.0 t21 := move  t5
    refine ol_pure rfl (op_move rfl) ?_
    -- r3.1 t4 := assign  t21
    refine ol_pure rfl (op_assign rfl) ?_
    refine ol_nil ?_
    refine pq_then ?_
    refine cw_ret ?_
    refine pq_ret ?_
    refine ret1 rfl rfl ?_
    -- ret1 h15t
    exact hS.sc_b rfl
  · skip
    try simp only [decide_eq_true_eq, decide_eq_false_iff_not, Bool.not_eq_true', Bool.not_eq_false', Bool.not_eq_eq_eq_not, Bool.not_true, Bool.not_false] at h15
    have hmay : fewP atoms rs = true ∧ RightP atoms rs := by
      rw [Bool.and_eq_true, rightPB_iff] at h15
      exact h15
    have hP := PrOk.of_may hmay.1 hmay.2
    have hPn := hP.n_le
    have hng : ∀ r ∈ rs, r.neg.length ≤ 1000 := fun r hr => by
      have hf := hmay.1
      simp only [fewP, Bool.and_eq_true, decide_eq_true_eq, List.all_eq_true] at hf
      have := (hf.2 r hr).2
      omega
    -- r2.4 t16 := fieldAddr [25, 0] t2 ?3=False
    refine ol_guard_pure rfl rfl rfl (op_fieldAddr fld_25_0 rfl) ?_
    -- r2.5 t17 := load [22] t16 ?3=False
    refine ol_guard_load rfl rfl rfl (op_load1 one_22 rfl (fun w hw => (hw.bcell (i := 0) rfl).trans rfl)) hS ?_
    -- r2.6 t18 := call len t17 ?3=False
    refine ol_guard_pure rfl rfl rfl (op_len sl_22 rfl rfl) ?_
    -- r2.7 t19 := eql t18 C0 ?3=False
    refine ol_guard_pure rfl rfl rfl (op_eql rfl rfl) ?_
    -- r2.8 t20 := pick  t15 Ctrue t19
    refine ol_pure rfl (op_pick_f rfl rfl) ?_
    refine ol_nil ?_
    refine pq_then ?_
    refine cw_cond rfl (fun h20 => ?_) (fun h20 => ?_)
    · skip
      try simp only [decide_eq_true_eq, decide_eq_false_iff_not, Bool.not_eq_true', Bool.not_eq_false', Bool.not_eq_eq_eq_not, Bool.not_true, Bool.not_false] at h20
      refine cw_seq ?_
      refine cw_region ?_
      -- r3.0 t21 := move  t5
      refine ol_pure rfl (op_move rfl) ?_
      -- r3.1 t4 := assign  t21
      refine ol_pure rfl (op_assign rfl) ?_
      refine ol_nil ?_
      refine pq_then ?_
      refine cw_ret ?_
      refine pq_ret ?_
      refine ret1 rfl rfl ?_
      -- ret1 h15f h20t
      exact hS.sc_b rfl
    · skip
      try simp only [decide_eq_true_eq, decide_eq_false_iff_not, Bool.not_eq_true', Bool.not_eq_false', Bool.not_eq_eq_eq_not, Bool.not_true, Bool.not_false] at h20
      refine cw_skip ?_
      refine pq_then ?_
      refine cw_seq ?_
      refine al_start' hS (hS.take 1) (by kernel_rfl) rfl (fun w hS hT => ?_)
      -- r4.0 t22 := load [25] t2
      refine al_load (i := 0) rfl (by kernel_rfl) (by kernel_rfl) (by kernel_rfl) rfl (fun _ _ _ h => h) (by exact op_loadN agg_25 rfl (by rfl) (fun w hw k u hk => (hw.bcell (i := 0) rfl).trans hk)) rfl hT ?_
      -- r4.1 t23 := move  t1
      refine al_take (i := 1) rfl (by kernel_rfl) (by kernel_rfl) (by kernel_rfl) rfl (fun _ _ _ h => h) (op_move rfl) rfl ?_
      -- r4.2 t24 := convert [5, 3] t23
      refine al_take (i := 2) rfl (by kernel_rfl) (by kernel_rfl) (by kernel_rfl) rfl (fun _ _ _ h => h) (op_conv ⟨_, Try.underlying5⟩ Try.underlying3 rfl (wrap_u8 hz)) rfl ?_
      -- r4.3 t25 := fieldAddr [25, 0] t2
      refine al_take (i := 3) rfl (by kernel_rfl) (by kernel_rfl) (by kernel_rfl) rfl (fun _ _ _ h => h) (op_fieldAddr fld_25_0 rfl) rfl ?_
      -- r4.4 t26 := load [22] t25
      refine al_load (i := 4) rfl (by kernel_rfl) (by kernel_rfl) (by kernel_rfl) rfl (fun _ _ _ h => h) (by exact op_load1 one_22 rfl (fun w hw => (hw.bcell (i := 0) rfl).trans rfl)) rfl hT ?_
      -- r4.5 t27 := call len t26
      refine al_take (i := 5) rfl (by kernel_rfl) (by kernel_rfl) (by kernel_rfl) rfl (fun _ _ _ h => h) (op_len sl_22 rfl rfl) rfl ?_
      -- r4.6 t28 := rem t24 t27
      refine al_take (i := 6) rfl (by kernel_rfl) (by kernel_rfl) (by kernel_rfl) rfl (fun _ _ _ h => h) (op_rem rfl rfl (by omega) (by omega)) rfl ?_
      refine al_two (i := 7) (j := 8) (by kernel_rfl) (fun a ha => ?_) (fun a ha => ?_)
      · skip
        have hq0 : 0 ≤ z % (atoms.length : Nat) := Int.emod_nonneg _ (by omega)
        have hq1 : z % (atoms.length : Nat) < (atoms.length : Nat) := Int.emod_lt_of_pos _ (by omega)
        obtain ⟨j, hj⟩ := Int.eq_ofNat_of_zero_le hq0
        have hct := R16_Cut_c _ _ hS.hold _ _ atoms rs h1 h2 j (by omega) hP hng
        rw [← hj] at hct
        refine wpOp_of_opk (i := 7) rfl ha (op_call_rt hS cf_27 rfl (fun _ => .inr rfl) (fun _ _ _ hl ⟨L, a1, a2, a, b, h1, h2, h3⟩ => ⟨L, a1, a2, a, b, h1, h2.mono EAtom.mono hl, h3.mono ERule.mono hl⟩) (hct)) ?_
        clear hS
        rintro v29 w ⟨G29, hl29, hR29, hS⟩
        obtain ⟨L, hset, hcl, vc, vd, rfl, hRC, hRD⟩ := hR29
        have hLn := hset.le
        obtain ⟨oC, cC, rfl, _, _⟩ := hRC.elim
        obtain ⟨oD, cD, rfl, _, _⟩ := hRD.elim
        have hcN : (onlyA atoms L).length = L.length := by simp [onlyA]
        have hPC : PrOk (onlyA atoms L).length (onlyR rs L) := by rw [hcN]; exact only_ok hP hset hcl
        have hT := hT.back hS (by first | exact Le.refl _ | assumption) (fun x hx => by try simp only [List.take_succ_cons, List.take_zero, List.mem_cons, List.not_mem_nil, or_false] at hx; (rcases hx with rfl) <;> simp)
        refine ⟨fun _ _ => hT, ?_⟩
        refine al_at ?_ (ha.put (blt_lt rfl) _)
        refine al_step (i := 8) rfl (by kernel_rfl) rfl (op_alloc hS el_25 rfl) ?_
        clear hS
        rintro _ w ⟨b6, rfl, hS⟩
        have hT := hT.back hS (by first | exact Le.refl _ | assumption) (fun x hx => by try simp only [List.take_succ_cons, List.take_zero, List.mem_cons, List.not_mem_nil, or_false] at hx; (rcases hx with rfl) <;> simp)
        refine ⟨fun _ _ => hT, ?_⟩
        refine al_step0 (i := 9) rfl (by kernel_rfl) (op_storeN (j := 0) hS sz_25 rfl rfl rfl rfl rfl (by simp [Value.oneCell'])) ?_
        clear hS
        rintro _ w hS; (try simp only [List.nil_append, List.cons_append, List.set] at hS)
        refine ⟨no_need (by kernel_rfl), ?_⟩
        refine al_done (by kernel_rfl) ?_
        refine pq_then ?_
        refine cw_seq ?_
        refine al_start' hS (hS.take 2) (by kernel_rfl) rfl (fun w hS hT => ?_)
        -- r5.0 t30 := load [25] t2
        refine al_load (i := 0) rfl (by kernel_rfl) (by kernel_rfl) (by kernel_rfl) rfl (fun _ _ _ h => h) (by exact op_loadN agg_25 rfl (by rfl) (fun w hw k u hk => (hw.bcell (i := 1) rfl).trans hk)) rfl hT ?_
        -- r5.2 t32 := load [25] t6
        refine al_load (i := 2) rfl (by kernel_rfl) (by kernel_rfl) (by kernel_rfl) rfl (fun _ _ _ h => h) (by exact op_loadN agg_25 rfl (by rfl) (fun w hw k u hk => (hw.bcell (i := 0) rfl).trans hk)) rfl hT ?_
        refine al_step (i := 1) rfl (by kernel_rfl) rfl (op_call_fr hS cf_18 rfl (wfm_Model_c _ _ hS.hold EAtom.mono _ _ atoms rs (h1.mono EAtom.mono hl29) (h2.mono ERule.mono hl29) hP)) ?_
        clear hS
        rintro v31 w ⟨F31, G31, hR31, hF31, hf31, hl31, hS⟩
        obtain ⟨oM, cM, rfl, _, _⟩ := hR31.elimN (modelI_len _ _)
        have hl31b := hl29.trans hl31
        have hT := hT.back hS (by first | exact Le.refl _ | assumption) (fun x hx => by try simp only [List.take_succ_cons, List.take_zero, List.mem_cons, List.not_mem_nil, or_false] at hx; (rcases hx with rfl | rfl) <;> simp)
        refine ⟨fun _ _ => hT, ?_⟩
        refine al_step (i := 3) rfl (by kernel_rfl) rfl (op_call_fr hS cf_18 rfl (wfm_Model_c _ _ hS.hold EAtom.mono _ _ (onlyA atoms L) (onlyR rs L) (hRC.mono EAtom.mono hl31) (hRD.mono ERule.mono hl31) hPC)) ?_
        clear hS
        rintro v33 w ⟨F33, G33, hR33, hF33, hf33, hl33, hS⟩
        obtain ⟨oK, cK, rfl, _, _⟩ := hR33.elimN (modelI_len _ _)
        have hl33b := hl31b.trans hl33
        have hl33c := hl31.trans hl33
        have hM := (hR31.mono EInt.mono hf31).mono EInt.mono hl33
        have hK := hR33.mono EInt.mono hf33
        rw [hcN] at hK
        have hT := hT.back hS (by first | exact Le.refl _ | assumption) (fun x hx => by try simp only [List.take_succ_cons, List.take_zero, List.mem_cons, List.not_mem_nil, or_false] at hx; (rcases hx with rfl | rfl) <;> simp)
        refine ⟨fun _ _ => hT, ?_⟩
        -- r5.4 t7 := assign  t31
        refine al_take (i := 4) rfl (by kernel_rfl) (by kernel_rfl) (by kernel_rfl) rfl (fun _ _ _ h => h) (op_assign rfl) rfl ?_
        -- r5.5 t8 := assign  t33
        refine al_take (i := 5) rfl (by kernel_rfl) (by kernel_rfl) (by kernel_rfl) rfl (fun _ _ _ h => h) (op_assign rfl) rfl ?_
        refine al_done (by kernel_rfl) ?_
        refine pq_then ?_
        refine cw_seq ?_
        refine cw_seq ?_
        refine cw_region ?_
        -- r6.0 t34 := move  t7
        refine ol_pure rfl (op_move rfl) ?_
        -- r6.1 t35 := call len t34
        refine ol_pure rfl (op_len sl_27 rfl rfl) ?_
        -- r6.2 t36 := fieldAddr [25, 0] t2
        refine ol_pure rfl (op_fieldAddr fld_25_0 rfl) ?_
        -- r6.3 t37 := load [22] t36
        refine ol_load rfl (op_load1 one_22 rfl (fun w hw => (hw.bcell (i := 1) rfl).trans rfl)) hS ?_
        -- r6.4 t38 := call len t37
        refine ol_pure rfl (op_len sl_22 rfl rfl) ?_
        -- r6.5 t39 := neq t35 t38
        refine ol_pure rfl (op_neqF rfl rfl rfl) ?_
        -- r6.6 t40 := move  t39
        refine ol_pure rfl (op_move rfl) ?_
        -- r6.7 t41 := move  t8 ?6=False
        refine ol_guard_pure rfl rfl rfl (op_move rfl) ?_
        -- r6.8 t42 := call len t41 ?6=False
        refine ol_guard_pure rfl rfl rfl (op_len sl_27 rfl rfl) ?_
        -- r6.9 t43 := fieldAddr [25, 0] t6 ?6=False
        refine ol_guard_pure rfl rfl rfl (op_fieldAddr fld_25_0 rfl) ?_
        -- r6.10 t44 := load [22] t43 ?6=False
        refine ol_guard_load rfl rfl rfl (op_load1 one_22 rfl (fun w hw => (hw.bcell (i := 0) rfl).trans rfl)) hS ?_
        -- r6.11 t45 := call len t44 ?6=False
        refine ol_guard_pure rfl rfl rfl (op_len sl_22 rfl rfl) ?_
        -- r6.12 t46 := neq t42 t45 ?6=False
        refine ol_guard_pure rfl rfl rfl (op_neqF rfl rfl rfl) ?_
        -- r6.13 t47 := pick  t40 Ctrue t46
        refine ol_pure rfl (op_pick_f rfl rfl) ?_
        refine ol_nil ?_
        refine pq_then ?_
        refine cw_cond_f rfl ?_
        refine cw_skip ?_
        refine pq_then ?_
        refine cw_seq ?_
        refine cw_seq ?_
        refine cw_region ?_
        -- r8.0 t9 := assign  C0
        refine ol_pure rfl (op_assign rfl) ?_
        refine ol_nil ?_
        refine pq_then ?_
        refine cw_block ?_
        refine cw_loop (fun e w n => ∃ k : Nat, e = [(2, .pointer (some ⟨b2, 0, none⟩)), (5, .bool true), (6, .pointer (some ⟨b6, 0, none⟩)), (7, .slice oM atoms.length cM), (8, .slice oK (onlyA atoms L).length cK), (9, .int .i64 (k : Nat))] ∧ k ≤ L.length ∧ n = L.length - k ∧ SS G w0 G33 [.blk b6 25 [.slice oC (onlyA atoms L).length cC, .slice oD (onlyR rs L).length cD], .blk b2 25 [.slice oA atoms.length cA, .slice oR rs.length cR]] w) _ _ (by exact ⟨0, rfl, Nat.zero_le _, rfl, hS⟩) ((Sub.cons rfl (Sub.cons rfl (Sub.cons rfl (Sub.cons rfl (Sub.cons rfl (Sub.cons rfl Sub.nil))))))) ?_
        clear hS
        rintro e w n ⟨k, rfl, hk, rfl, hS⟩
        refine cw_seq ?_
        refine cw_seq ?_
        refine cw_region ?_
        -- r9.0 t48 := move  t9
        refine ol_pure rfl (op_move rfl) ?_
        -- r9.1 t49 := move  t8
        refine ol_pure rfl (op_move rfl) ?_
        -- r9.2 t50 := call len t49
        refine ol_pure rfl (op_len sl_27 rfl rfl) ?_
        -- r9.3 t51 := lss t48 t50
        refine ol_pure rfl (op_lss rfl rfl) ?_
        refine ol_nil ?_
        refine pq_then ?_
        refine cw_cond rfl (fun h51 => ?_) (fun h51 => ?_)
        · skip
          try simp only [decide_eq_true_eq, decide_eq_false_iff_not, Bool.not_eq_true', Bool.not_eq_false', Bool.not_eq_eq_eq_not, Bool.not_true, Bool.not_false] at h51
          have hlt : k < L.length := by omega
          have hltc : k < (onlyA atoms L).length := by omega
          obtain ⟨hoC, ob, d, hcell, hat, hd1, hd2⟩ := (hRC.mono EAtom.mono hl33c).slAt hltc
          have hLk := hset.range _ (List.getElem_mem hlt)
          obtain ⟨x, hxe⟩ := Int.eq_ofNat_of_zero_le hLk.1
          have hxn : x < atoms.length := by omega
          have hax : (onlyA atoms L)[k] = atoms[x] := by simp [onlyA, hxe, hxn]
          rw [hax] at hcell hat
          have hfx : findI atoms atoms[x] = x := findI_self hmay.2 hxn
          obtain ⟨hoM, hcM, _⟩ := hM.int (show x < (modelI atoms.length rs).length by rw [modelI_len]; exact hxn)
          obtain ⟨hoK, hcK, _⟩ := hK.int (show k < (modelI L.length (onlyR rs L)).length by rw [modelI_len]; exact hlt)
          have hsame : (modelI L.length (onlyR rs L))[k]'(by rw [modelI_len]; exact hlt) = (modelI atoms.length rs)[x]'(by rw [modelI_len]; exact hxn) := by
            have hh := alone hP hset hcl hlt
            rw [hxe] at hh
            rw [List.getD_eq_getElem?_getD, List.getD_eq_getElem?_getD, List.getElem?_eq_getElem (by rw [modelI_len]; exact hlt), List.getElem?_eq_getElem (by rw [modelI_len]; exact hxn)] at hh
            exact hh
          refine cw_skip ?_
          refine pq_then ?_
          refine cw_seq ?_
          refine cw_block ?_
          refine cw_seq ?_
          refine al_start' hS (hS.take 2) (by kernel_rfl) rfl (fun w hS hT => ?_)
          -- r11.0 t54 := load [25] t2
          refine al_load (i := 0) rfl (by kernel_rfl) (by kernel_rfl) (by kernel_rfl) rfl (fun _ _ _ h => h) (by exact op_loadN agg_25 rfl (by rfl) (fun w hw k u hk => (hw.bcell (i := 1) rfl).trans hk)) rfl hT ?_
          -- r11.1 t55 := fieldAddr [25, 0] t6
          refine al_take (i := 1) rfl (by kernel_rfl) (by kernel_rfl) (by kernel_rfl) rfl (fun _ _ _ h => h) (op_fieldAddr fld_25_0 rfl) rfl ?_
          -- r11.2 t56 := load [22] t55
          refine al_load (i := 2) rfl (by kernel_rfl) (by kernel_rfl) (by kernel_rfl) rfl (fun _ _ _ h => h) (by exact op_load1 one_22 rfl (fun w hw => (hw.bcell (i := 0) rfl).trans rfl)) rfl hT ?_
          -- r11.3 t57 := move  t9
          refine al_take (i := 3) rfl (by kernel_rfl) (by kernel_rfl) (by kernel_rfl) rfl (fun _ _ _ h => h) (op_move rfl) rfl ?_
          -- r11.4 t58 := indexAddr [22] t56 t57
          refine al_take (i := 4) rfl (by kernel_rfl) (by kernel_rfl) (by kernel_rfl) rfl (fun _ _ _ h => h) (op_indexN sl_22 rfl rfl (by omega) hoC) rfl ?_
          -- r11.5 t59 := load [46] t58
          refine al_load (i := 5) rfl (by kernel_rfl) (by kernel_rfl) (by kernel_rfl) rfl (fun _ _ _ h => h) (by exact op_load1 one_46 rfl (fun w hw => hw.gcell hcell)) rfl hT ?_
          have hfd := R16_Find_c _ _ hS.hold _ _ atoms rs (h1.mono EAtom.mono hl33b) (h2.mono ERule.mono hl33b) _ atoms[x] hat
          rw [hfx] at hfd
          refine al_step (i := 6) rfl (by kernel_rfl) rfl (op_call_sc hS cf_28 rfl (hfd)) ?_
          clear hS
          rintro _ w ⟨rfl, hS⟩
          have hT := hT.back hS (by first | exact Le.refl _ | assumption) (fun x hx => by try simp only [List.take_succ_cons, List.take_zero, List.mem_cons, List.not_mem_nil, or_false] at hx; (rcases hx with rfl | rfl) <;> simp)
          refine ⟨fun _ _ => hT, ?_⟩
          -- r11.7 t10 := assign  t60
          refine al_take (i := 7) rfl (by kernel_rfl) (by kernel_rfl) (by kernel_rfl) rfl (fun _ _ _ h => h) (op_assign rfl) rfl ?_
          refine al_done (by kernel_rfl) ?_
          refine pq_then ?_
          refine cw_seq ?_
          refine al_start' hS (hS.take 0) (by kernel_rfl) rfl (fun w hS hT => ?_)
          -- r12.0 t61 := move  t10
          refine al_take (i := 0) rfl (by kernel_rfl) (by kernel_rfl) (by kernel_rfl) rfl (fun _ _ _ h => h) (op_move rfl) rfl ?_
          -- r12.1 t62 := lss t61 C0
          refine al_take (i := 1) rfl (by kernel_rfl) (by kernel_rfl) (by kernel_rfl) rfl (fun _ _ _ h => h) (op_lss rfl rfl) rfl ?_
          -- r12.2 t63 := move  t62
          refine al_take (i := 2) rfl (by kernel_rfl) (by kernel_rfl) (by kernel_rfl) rfl (fun _ _ _ h => h) (op_move rfl) rfl ?_
          refine al_split (fun h63 => ?_) (fun h63 => ?_)
          · skip
            try simp only [decide_eq_true_eq, decide_eq_false_iff_not, Bool.not_eq_true', Bool.not_eq_false', Bool.not_eq_eq_eq_not, Bool.not_true, Bool.not_false] at h63
            refine al_gskip (i := 3) rfl (by kernel_rfl) (by kernel_rfl) (by kernel_rfl) rfl rfl rfl rfl (fun _ _ _ h => h) (fun _ => hT) ?_
            refine al_gskip (i := 4) rfl (by kernel_rfl) (by kernel_rfl) (by kernel_rfl) rfl rfl rfl rfl (fun _ _ _ h => h) (fun _ => hT) ?_
            refine al_gskip (i := 5) rfl (by kernel_rfl) (by kernel_rfl) (by kernel_rfl) rfl rfl rfl rfl (fun _ _ _ h => h) (fun _ => hT) ?_
            refine al_gskip (i := 6) rfl (by kernel_rfl) (by kernel_rfl) (by kernel_rfl) rfl rfl rfl rfl (fun _ _ _ h => h) (fun _ => hT) ?_
            refine al_gskip (i := 7) rfl (by kernel_rfl) (by kernel_rfl) (by kernel_rfl) rfl rfl rfl rfl (fun _ _ _ h => h) (fun _ => hT) ?_
            refine al_gskip (i := 8) rfl (by kernel_rfl) (by kernel_rfl) (by kernel_rfl) rfl rfl rfl rfl (fun _ _ _ h => h) (fun _ => hT) ?_
            refine al_gskip (i := 9) rfl (by kernel_rfl) (by kernel_rfl) (by kernel_rfl) rfl rfl rfl rfl (fun _ _ _ h => h) (fun _ => hT) ?_
            refine al_gskip (i := 10) rfl (by kernel_rfl) (by kernel_rfl) (by kernel_rfl) rfl rfl rfl rfl (fun _ _ _ h => h) (fun _ => hT) ?_
            refine al_gskip (i := 11) rfl (by kernel_rfl) (by kernel_rfl) (by kernel_rfl) rfl rfl rfl rfl (fun _ _ _ h => h) (fun _ => hT) ?_
            -- r12.12 t73 := pick  t63 Ctrue t72
            refine al_take (i := 12) rfl (by kernel_rfl) (by kernel_rfl) (by kernel_rfl) rfl (fun _ _ _ h => h) (op_pick_t rfl rfl) rfl ?_
            refine al_done (by kernel_rfl) ?_
            refine pq_then ?_
            refine cw_cond_t rfl ?_
            refine cw_seq ?_
            refine cw_region ?_
            -- r13.0 t4 := assign  Cfalse
            refine ol_pure rfl (op_assign rfl) ?_
            refine ol_nil ?_
            refine pq_then ?_
            refine cw_ret ?_
            refine pq_in_ret ?_
            refine pq_ret ?_
            refine pq_ret ?_
            refine pq_in_ret ?_
            refine pq_ret ?_
            refine ret1 rfl rfl ?_
            -- ret3 h15f h20f o7 h51t h63t
            exact (by omega : False).elim
          · skip
            try simp only [decide_eq_true_eq, decide_eq_false_iff_not, Bool.not_eq_true', Bool.not_eq_false', Bool.not_eq_eq_eq_not, Bool.not_true, Bool.not_false] at h63
            -- r12.3 t64 := move  t8 ?2=False
            refine al_gtake (i := 3) rfl (by kernel_rfl) (by kernel_rfl) (by kernel_rfl) rfl rfl rfl (fun _ _ _ h => h) (op_move rfl) rfl ?_
            -- r12.4 t65 := move  t9 ?2=False
            refine al_gtake (i := 4) rfl (by kernel_rfl) (by kernel_rfl) (by kernel_rfl) rfl rfl rfl (fun _ _ _ h => h) (op_move rfl) rfl ?_
            -- r12.5 t66 := indexAddr [27] t64 t65 ?2=False
            refine al_gtake (i := 5) rfl (by kernel_rfl) (by kernel_rfl) (by kernel_rfl) rfl rfl rfl (fun _ _ _ h => h) (op_indexN sl_27 rfl rfl (by omega) hoK) rfl ?_
            -- r12.6 t67 := load [3] t66 ?2=False
            refine al_gload (i := 6) rfl (by kernel_rfl) (by kernel_rfl) (by kernel_rfl) rfl rfl rfl (fun _ _ _ h => h) (by exact op_load1 one_3 rfl (fun w hw => hw.gcell hcK)) rfl hT ?_
            -- r12.7 t68 := move  t7 ?2=False
            refine al_gtake (i := 7) rfl (by kernel_rfl) (by kernel_rfl) (by kernel_rfl) rfl rfl rfl (fun _ _ _ h => h) (op_move rfl) rfl ?_
            -- r12.8 t69 := move  t10 ?2=False
            refine al_gtake (i := 8) rfl (by kernel_rfl) (by kernel_rfl) (by kernel_rfl) rfl rfl rfl (fun _ _ _ h => h) (op_move rfl) rfl ?_
            -- r12.9 t70 := indexAddr [27] t68 t69 ?2=False
            refine al_gtake (i := 9) rfl (by kernel_rfl) (by kernel_rfl) (by kernel_rfl) rfl rfl rfl (fun _ _ _ h => h) (op_indexN sl_27 rfl rfl (by omega) hoM) rfl ?_
            -- r12.10 t71 := load [3] t70 ?2=False
            refine al_gload (i := 10) rfl (by kernel_rfl) (by kernel_rfl) (by kernel_rfl) rfl rfl rfl (fun _ _ _ h => h) (by exact op_load1 one_3 rfl (fun w hw => hw.gcell hcM)) rfl hT ?_
            -- r12.11 t72 := neq t67 t71 ?2=False
            refine al_gtake (i := 11) rfl (by kernel_rfl) (by kernel_rfl) (by kernel_rfl) rfl rfl rfl (fun _ _ _ h => h) (op_neq rfl rfl) rfl ?_
            -- r12.12 t73 := pick  t63 Ctrue t72
            refine al_take (i := 12) rfl (by kernel_rfl) (by kernel_rfl) (by kernel_rfl) rfl (fun _ _ _ h => h) (op_pick_f rfl rfl) rfl ?_
            refine al_done (by kernel_rfl) ?_
            refine pq_then ?_
            refine cw_cond rfl (fun h73 => ?_) (fun h73 => ?_)
            · skip
              try simp only [decide_eq_true_eq, decide_eq_false_iff_not, Bool.not_eq_true', Bool.not_eq_false', Bool.not_eq_eq_eq_not, Bool.not_true, Bool.not_false] at h73
              refine cw_seq ?_
              refine cw_region ?_
              -- r13.0 t4 := assign  Cfalse
              refine ol_pure rfl (op_assign rfl) ?_
              refine ol_nil ?_
              refine pq_then ?_
              refine cw_ret ?_
              refine pq_in_ret ?_
              refine pq_ret ?_
              refine pq_ret ?_
              refine pq_in_ret ?_
              refine pq_ret ?_
              refine ret1 rfl rfl ?_
              -- ret3 h15f h20f o7 h51t h63f h73t
              exact absurd hsame h73
            · skip
              try simp only [decide_eq_true_eq, decide_eq_false_iff_not, Bool.not_eq_true', Bool.not_eq_false', Bool.not_eq_eq_eq_not, Bool.not_true, Bool.not_false] at h73
              refine cw_skip ?_
              refine pq_in_normal ?_
              refine pq_then ?_
              refine cw_region ?_
              -- r10.0 t52 := move  t9
              refine ol_pure rfl (op_move rfl) ?_
              -- r10.1 t53 := add t52 C1
              refine ol_pure rfl (op_add rfl rfl (by omega) (by omega)) ?_
              -- r10.2 t9 := assign  t53
              refine ol_pure rfl (op_assign rfl) ?_
              refine ol_nil ?_
              -- end of round 1 h15f h20f o7 h51t h63f h73f
              refine pq_loop _ _ (by exact ⟨k + 1, rfl, by omega, rfl, hS⟩) ((Sub.cons rfl (Sub.cons rfl (Sub.cons rfl (Sub.cons rfl (Sub.cons rfl (Sub.cons rfl Sub.nil))))))) (by omega)
        · skip
          try simp only [decide_eq_true_eq, decide_eq_false_iff_not, Bool.not_eq_true', Bool.not_eq_false', Bool.not_eq_eq_eq_not, Bool.not_true, Bool.not_false] at h51
          refine cw_exit ?_
          refine pq_exit ?_
          refine pq_exit ?_
          refine pq_in_exit ?_
          refine pq_then ?_
          refine cw_seq ?_
          refine cw_region ?_
          -- r14.0 t74 := move  t5
          refine ol_pure rfl (op_move rfl) ?_
          -- r14.1 t4 := assign  t74
          refine ol_pure rfl (op_assign rfl) ?_
          refine ol_nil ?_
          refine pq_then ?_
          refine cw_ret ?_
          refine ret1 rfl rfl ?_
          -- ret4 h15f h20f o7 h51f
          exact hS.sc_b rfl
      · skip
        refine wpOp_of_opk (i := 8) rfl ha (op_alloc hS el_25 rfl) ?_
        clear hS
        rintro _ w ⟨b6, rfl, hS⟩
        have hT := hT.back hS (by first | exact Le.refl _ | assumption) (fun x hx => by try simp only [List.take_succ_cons, List.take_zero, List.mem_cons, List.not_mem_nil, or_false] at hx; (rcases hx with rfl) <;> simp)
        refine ⟨fun _ _ => hT, ?_⟩
        refine al_at ?_ (ha.put (blt_lt rfl) _)
        have hq0 : 0 ≤ z % (atoms.length : Nat) := Int.emod_nonneg _ (by omega)
        have hq1 : z % (atoms.length : Nat) < (atoms.length : Nat) := Int.emod_lt_of_pos _ (by omega)
        obtain ⟨j, hj⟩ := Int.eq_ofNat_of_zero_le hq0
        have hct := R16_Cut_c _ _ hS.hold _ _ atoms rs h1 h2 j (by omega) hP hng
        rw [← hj] at hct
        refine al_step (i := 7) rfl (by kernel_rfl) rfl (op_call_rt hS cf_27 rfl (fun _ => .inr rfl) (fun _ _ _ hl ⟨L, a1, a2, a, b, h1, h2, h3⟩ => ⟨L, a1, a2, a, b, h1, h2.mono EAtom.mono hl, h3.mono ERule.mono hl⟩) (hct)) ?_
        clear hS
        rintro v29 w ⟨G29, hl29, hR29, hS⟩
        obtain ⟨L, hset, hcl, vc, vd, rfl, hRC, hRD⟩ := hR29
        have hLn := hset.le
        obtain ⟨oC, cC, rfl, _, _⟩ := hRC.elim
        obtain ⟨oD, cD, rfl, _, _⟩ := hRD.elim
        have hcN : (onlyA atoms L).length = L.length := by simp [onlyA]
        have hPC : PrOk (onlyA atoms L).length (onlyR rs L) := by rw [hcN]; exact only_ok hP hset hcl
        have hT := hT.back hS (by first | exact Le.refl _ | assumption) (fun x hx => by try simp only [List.take_succ_cons, List.take_zero, List.mem_cons, List.not_mem_nil, or_false] at hx; (rcases hx with rfl) <;> simp)
        refine ⟨fun _ _ => hT, ?_⟩
        refine al_step0 (i := 9) rfl (by kernel_rfl) (op_storeN (j := 0) hS sz_25 rfl rfl rfl rfl rfl (by simp [Value.oneCell'])) ?_
        clear hS
        rintro _ w hS; (try simp only [List.nil_append, List.cons_append, List.set] at hS)
        refine ⟨no_need (by kernel_rfl), ?_⟩
        refine al_done (by kernel_rfl) ?_
        refine pq_then ?_
        refine cw_seq ?_
        refine al_start' hS (hS.take 2) (by kernel_rfl) rfl (fun w hS hT => ?_)
        -- r5.0 t30 := load [25] t2
        refine al_load (i := 0) rfl (by kernel_rfl) (by kernel_rfl) (by kernel_rfl) rfl (fun _ _ _ h => h) (by exact op_loadN agg_25 rfl (by rfl) (fun w hw k u hk => (hw.bcell (i := 1) rfl).trans hk)) rfl hT ?_
        -- r5.2 t32 := load [25] t6
        refine al_load (i := 2) rfl (by kernel_rfl) (by kernel_rfl) (by kernel_rfl) rfl (fun _ _ _ h => h) (by exact op_loadN agg_25 rfl (by rfl) (fun w hw k u hk => (hw.bcell (i := 0) rfl).trans hk)) rfl hT ?_
        refine al_step (i := 1) rfl (by kernel_rfl) rfl (op_call_fr hS cf_18 rfl (wfm_Model_c _ _ hS.hold EAtom.mono _ _ atoms rs (h1.mono EAtom.mono hl29) (h2.mono ERule.mono hl29) hP)) ?_
        clear hS
        rintro v31 w ⟨F31, G31, hR31, hF31, hf31, hl31, hS⟩
        obtain ⟨oM, cM, rfl, _, _⟩ := hR31.elimN (modelI_len _ _)
        have hl31b := hl29.trans hl31
        have hT := hT.back hS (by first | exact Le.refl _ | assumption) (fun x hx => by try simp only [List.take_succ_cons, List.take_zero, List.mem_cons, List.not_mem_nil, or_false] at hx; (rcases hx with rfl | rfl) <;> simp)
        refine ⟨fun _ _ => hT, ?_⟩
        refine al_step (i := 3) rfl (by kernel_rfl) rfl (op_call_fr hS cf_18 rfl (wfm_Model_c _ _ hS.hold EAtom.mono _ _ (onlyA atoms L) (onlyR rs L) (hRC.mono EAtom.mono hl31) (hRD.mono ERule.mono hl31) hPC)) ?_
        clear hS
        rintro v33 w ⟨F33, G33, hR33, hF33, hf33, hl33, hS⟩
        obtain ⟨oK, cK, rfl, _, _⟩ := hR33.elimN (modelI_len _ _)
        have hl33b := hl31b.trans hl33
        have hl33c := hl31.trans hl33
        have hM := (hR31.mono EInt.mono hf31).mono EInt.mono hl33
        have hK := hR33.mono EInt.mono hf33
        rw [hcN] at hK
        have hT := hT.back hS (by first | exact Le.refl _ | assumption) (fun x hx => by try simp only [List.take_succ_cons, List.take_zero, List.mem_cons, List.not_mem_nil, or_false] at hx; (rcases hx with rfl | rfl) <;> simp)
        refine ⟨fun _ _ => hT, ?_⟩
        -- r5.4 t7 := assign  t31
        refine al_take (i := 4) rfl (by kernel_rfl) (by kernel_rfl) (by kernel_rfl) rfl (fun _ _ _ h => h) (op_assign rfl) rfl ?_
        -- r5.5 t8 := assign  t33
        refine al_take (i := 5) rfl (by kernel_rfl) (by kernel_rfl) (by kernel_rfl) rfl (fun _ _ _ h => h) (op_assign rfl) rfl ?_
        refine al_done (by kernel_rfl) ?_
        refine pq_then ?_
        refine cw_seq ?_
        refine cw_seq ?_
        refine cw_region ?_
        -- r6.0 t34 := move  t7
        refine ol_pure rfl (op_move rfl) ?_
        -- r6.1 t35 := call len t34
        refine ol_pure rfl (op_len sl_27 rfl rfl) ?_
        -- r6.2 t36 := fieldAddr [25, 0] t2
        refine ol_pure rfl (op_fieldAddr fld_25_0 rfl) ?_
        -- r6.3 t37 := load [22] t36
        refine ol_load rfl (op_load1 one_22 rfl (fun w hw => (hw.bcell (i := 1) rfl).trans rfl)) hS ?_
        -- r6.4 t38 := call len t37
        refine ol_pure rfl (op_len sl_22 rfl rfl) ?_
        -- r6.5 t39 := neq t35 t38
        refine ol_pure rfl (op_neqF rfl rfl rfl) ?_
        -- r6.6 t40 := move  t39
        refine ol_pure rfl (op_move rfl) ?_
        -- r6.7 t41 := move  t8 ?6=False
        refine ol_guard_pure rfl rfl rfl (op_move rfl) ?_
        -- r6.8 t42 := call len t41 ?6=False
        refine ol_guard_pure rfl rfl rfl (op_len sl_27 rfl rfl) ?_
        -- r6.9 t43 := fieldAddr [25, 0] t6 ?6=False
        refine ol_guard_pure rfl rfl rfl (op_fieldAddr fld_25_0 rfl) ?_
        -- r6.10 t44 := load [22] t43 ?6=False
        refine ol_guard_load rfl rfl rfl (op_load1 one_22 rfl (fun w hw => (hw.bcell (i := 0) rfl).trans rfl)) hS ?_
        -- r6.11 t45 := call len t44 ?6=False
        refine ol_guard_pure rfl rfl rfl (op_len sl_22 rfl rfl) ?_
        -- r6.12 t46 := neq t42 t45 ?6=False
        refine ol_guard_pure rfl rfl rfl (op_neqF rfl rfl rfl) ?_
        -- r6.13 t47 := pick  t40 Ctrue t46
        refine ol_pure rfl (op_pick_f rfl rfl) ?_
        refine ol_nil ?_
        refine pq_then ?_
        refine cw_cond_f rfl ?_
        refine cw_skip ?_
        refine pq_then ?_
        refine cw_seq ?_
        refine cw_seq ?_
        refine cw_region ?_
        -- r8.0 t9 := assign  C0
        refine ol_pure rfl (op_assign rfl) ?_
        refine ol_nil ?_
        refine pq_then ?_
        refine cw_block ?_
        refine cw_loop (fun e w n => ∃ k : Nat, e = [(2, .pointer (some ⟨b2, 0, none⟩)), (5, .bool true), (6, .pointer (some ⟨b6, 0, none⟩)), (7, .slice oM atoms.length cM), (8, .slice oK (onlyA atoms L).length cK), (9, .int .i64 (k : Nat))] ∧ k ≤ L.length ∧ n = L.length - k ∧ SS G w0 G33 [.blk b6 25 [.slice oC (onlyA atoms L).length cC, .slice oD (onlyR rs L).length cD], .blk b2 25 [.slice oA atoms.length cA, .slice oR rs.length cR]] w) _ _ (by exact ⟨0, rfl, Nat.zero_le _, rfl, hS⟩) ((Sub.cons rfl (Sub.cons rfl (Sub.cons rfl (Sub.cons rfl (Sub.cons rfl (Sub.cons rfl Sub.nil))))))) ?_
        clear hS
        rintro e w n ⟨k, rfl, hk, rfl, hS⟩
        refine cw_seq ?_
        refine cw_seq ?_
        refine cw_region ?_
        -- r9.0 t48 := move  t9
        refine ol_pure rfl (op_move rfl) ?_
        -- r9.1 t49 := move  t8
        refine ol_pure rfl (op_move rfl) ?_
        -- r9.2 t50 := call len t49
        refine ol_pure rfl (op_len sl_27 rfl rfl) ?_
        -- r9.3 t51 := lss t48 t50
        refine ol_pure rfl (op_lss rfl rfl) ?_
        refine ol_nil ?_
        refine pq_then ?_
        refine cw_cond rfl (fun h51 => ?_) (fun h51 => ?_)
        · skip
          try simp only [decide_eq_true_eq, decide_eq_false_iff_not, Bool.not_eq_true', Bool.not_eq_false', Bool.not_eq_eq_eq_not, Bool.not_true, Bool.not_false] at h51
          have hlt : k < L.length := by omega
          have hltc : k < (onlyA atoms L).length := by omega
          obtain ⟨hoC, ob, d, hcell, hat, hd1, hd2⟩ := (hRC.mono EAtom.mono hl33c).slAt hltc
          have hLk := hset.range _ (List.getElem_mem hlt)
          obtain ⟨x, hxe⟩ := Int.eq_ofNat_of_zero_le hLk.1
          have hxn : x < atoms.length := by omega
          have hax : (onlyA atoms L)[k] = atoms[x] := by simp [onlyA, hxe, hxn]
          rw [hax] at hcell hat
          have hfx : findI atoms atoms[x] = x := findI_self hmay.2 hxn
          obtain ⟨hoM, hcM, _⟩ := hM.int (show x < (modelI atoms.length rs).length by rw [modelI_len]; exact hxn)
          obtain ⟨hoK, hcK, _⟩ := hK.int (show k < (modelI L.length (onlyR rs L)).length by rw [modelI_len]; exact hlt)
          have hsame : (modelI L.length (onlyR rs L))[k]'(by rw [modelI_len]; exact hlt) = (modelI atoms.length rs)[x]'(by rw [modelI_len]; exact hxn) := by
            have hh := alone hP hset hcl hlt
            rw [hxe] at hh
            rw [List.getD_eq_getElem?_getD, List.getD_eq_getElem?_getD, List.getElem?_eq_getElem (by rw [modelI_len]; exact hlt), List.getElem?_eq_getElem (by rw [modelI_len]; exact hxn)] at hh
            exact hh
          refine cw_skip ?_
          refine pq_then ?_
          refine cw_seq ?_
          refine cw_block ?_
          refine cw_seq ?_
          refine al_start' hS (hS.take 2) (by kernel_rfl) rfl (fun w hS hT => ?_)
          -- r11.0 t54 := load [25] t2
          refine al_load (i := 0) rfl (by kernel_rfl) (by kernel_rfl) (by kernel_rfl) rfl (fun _ _ _ h => h) (by exact op_loadN agg_25 rfl (by rfl) (fun w hw k u hk => (hw.bcell (i := 1) rfl).trans hk)) rfl hT ?_
          -- r11.1 t55 := fieldAddr [25, 0] t6
          refine al_take (i := 1) rfl (by kernel_rfl) (by kernel_rfl) (by kernel_rfl) rfl (fun _ _ _ h => h) (op_fieldAddr fld_25_0 rfl) rfl ?_
          -- r11.2 t56 := load [22] t55
          refine al_load (i := 2) rfl (by kernel_rfl) (by kernel_rfl) (by kernel_rfl) rfl (fun _ _ _ h => h) (by exact op_load1 one_22 rfl (fun w hw => (hw.bcell (i := 0) rfl).trans rfl)) rfl hT ?_
          -- r11.3 t57 := move  t9
          refine al_take (i := 3) rfl (by kernel_rfl) (by kernel_rfl) (by kernel_rfl) rfl (fun _ _ _ h => h) (op_move rfl) rfl ?_
          -- r11.4 t58 := indexAddr [22] t56 t57
          refine al_take (i := 4) rfl (by kernel_rfl) (by kernel_rfl) (by kernel_rfl) rfl (fun _ _ _ h => h) (op_indexN sl_22 rfl rfl (by omega) hoC) rfl ?_
          -- r11.5 t59 := load [46] t58
          refine al_load (i := 5) rfl (by kernel_rfl) (by kernel_rfl) (by kernel_rfl) rfl (fun _ _ _ h => h) (by exact op_load1 one_46 rfl (fun w hw => hw.gcell hcell)) rfl hT ?_
          have hfd := R16_Find_c _ _ hS.hold _ _ atoms rs (h1.mono EAtom.mono hl33b) (h2.mono ERule.mono hl33b) _ atoms[x] hat
          rw [hfx] at hfd
          refine al_step (i := 6) rfl (by kernel_rfl) rfl (op_call_sc hS cf_28 rfl (hfd)) ?_
          clear hS
          rintro _ w ⟨rfl, hS⟩
          have hT := hT.back hS (by first | exact Le.refl _ | assumption) (fun x hx => by try simp only [List.take_succ_cons, List.take_zero, List.mem_cons, List.not_mem_nil, or_false] at hx; (rcases hx with rfl | rfl) <;> simp)
          refine ⟨fun _ _ => hT, ?_⟩
          -- r11.7 t10 := assign  t60
          refine al_take (i := 7) rfl (by kernel_rfl) (by kernel_rfl) (by kernel_rfl) rfl (fun _ _ _ h => h) (op_assign rfl) rfl ?_
          refine al_done (by kernel_rfl) ?_
          refine pq_then ?_
          refine cw_seq ?_
          refine al_start' hS (hS.take 0) (by kernel_rfl) rfl (fun w hS hT => ?_)
          -- r12.0 t61 := move  t10
          refine al_take (i := 0) rfl (by kernel_rfl) (by kernel_rfl) (by kernel_rfl) rfl (fun _ _ _ h => h) (op_move rfl) rfl ?_
          -- r12.1 t62 := lss t61 C0
          refine al_take (i := 1) rfl (by kernel_rfl) (by kernel_rfl) (by kernel_rfl) rfl (fun _ _ _ h => h) (op_lss rfl rfl) rfl ?_
          -- r12.2 t63 := move  t62
          refine al_take (i := 2) rfl (by kernel_rfl) (by kernel_rfl) (by kernel_rfl) rfl (fun _ _ _ h => h) (op_move rfl) rfl ?_
          refine al_split (fun h63 => ?_) (fun h63 => ?_)
          · skip
            try simp only [decide_eq_true_eq, decide_eq_false_iff_not, Bool.not_eq_true', Bool.not_eq_false', Bool.not_eq_eq_eq_not, Bool.not_true, Bool.not_false] at h63
            refine al_gskip (i := 3) rfl (by kernel_rfl) (by kernel_rfl) (by kernel_rfl) rfl rfl rfl rfl (fun _ _ _ h => h) (fun _ => hT) ?_
            refine al_gskip (i := 4) rfl (by kernel_rfl) (by kernel_rfl) (by kernel_rfl) rfl rfl rfl rfl (fun _ _ _ h => h) (fun _ => hT) ?_
            refine al_gskip (i := 5) rfl (by kernel_rfl) (by kernel_rfl) (by kernel_rfl) rfl rfl rfl rfl (fun _ _ _ h => h) (fun _ => hT) ?_
            refine al_gskip (i := 6) rfl (by kernel_rfl) (by kernel_rfl) (by kernel_rfl) rfl rfl rfl rfl (fun _ _ _ h => h) (fun _ => hT) ?_
            refine al_gskip (i := 7) rfl (by kernel_rfl) (by kernel_rfl) (by kernel_rfl) rfl rfl rfl rfl (fun _ _ _ h => h) (fun _ => hT) ?_
            refine al_gskip (i := 8) rfl (by kernel_rfl) (by kernel_rfl) (by kernel_rfl) rfl rfl rfl rfl (fun _ _ _ h => h) (fun _ => hT) ?_
            refine al_gskip (i := 9) rfl (by kernel_rfl) (by kernel_rfl) (by kernel_rfl) rfl rfl rfl rfl (fun _ _ _ h => h) (fun _ => hT) ?_
            refine al_gskip (i := 10) rfl (by kernel_rfl) (by kernel_rfl) (by kernel_rfl) rfl rfl rfl rfl (fun _ _ _ h => h) (fun _ => hT) ?_
            refine al_gskip (i := 11) rfl (by kernel_rfl) (by kernel_rfl) (by kernel_rfl) rfl rfl rfl rfl (fun _ _ _ h => h) (fun _ => hT) ?_
            -- r12.12 t73 := pick  t63 Ctrue t72
            refine al_take (i := 12) rfl (by kernel_rfl) (by kernel_rfl) (by kernel_rfl) rfl (fun _ _ _ h => h) (op_pick_t rfl rfl) rfl ?_
            refine al_done (by kernel_rfl) ?_
            refine pq_then ?_
            refine cw_cond_t rfl ?_
            refine cw_seq ?_
            refine cw_region ?_
            -- r13.0 t4 := assign  Cfalse
            refine ol_pure rfl (op_assign rfl) ?_
            refine ol_nil ?_
            refine pq_then ?_
            refine cw_ret ?_
            refine pq_in_ret ?_
            refine pq_ret ?_
            refine pq_ret ?_
            refine pq_in_ret ?_
            refine pq_ret ?_
            refine ret1 rfl rfl ?_
            -- ret3 h15f h20f o8 h51t h63t
            exact (by omega : False).elim
          · skip
            try simp only [decide_eq_true_eq, decide_eq_false_iff_not, Bool.not_eq_true', Bool.not_eq_false', Bool.not_eq_eq_eq_not, Bool.not_true, Bool.not_false] at h63
            -- r12.3 t64 := move  t8 ?2=False
            refine al_gtake (i := 3) rfl (by kernel_rfl) (by kernel_rfl) (by kernel_rfl) rfl rfl rfl (fun _ _ _ h => h) (op_move rfl) rfl ?_
            -- r12.4 t65 := move  t9 ?2=False
            refine al_gtake (i := 4) rfl (by kernel_rfl) (by kernel_rfl) (by kernel_rfl) rfl rfl rfl (fun _ _ _ h => h) (op_move rfl) rfl ?_
            -- r12.5 t66 := indexAddr [27] t64 t65 ?2=False
            refine al_gtake (i := 5) rfl (by kernel_rfl) (by kernel_rfl) (by kernel_rfl) rfl rfl rfl (fun _ _ _ h => h) (op_indexN sl_27 rfl rfl (by omega) hoK) rfl ?_
            -- r12.6 t67 := load [3] t66 ?2=False
            refine al_gload (i := 6) rfl (by kernel_rfl) (by kernel_rfl) (by kernel_rfl) rfl rfl rfl (fun _ _ _ h => h) (by exact op_load1 one_3 rfl (fun w hw => hw.gcell hcK)) rfl hT ?_
            -- r12.7 t68 := move  t7 ?2=False
            refine al_gtake (i := 7) rfl (by kernel_rfl) (by kernel_rfl) (by kernel_rfl) rfl rfl rfl (fun _ _ _ h => h) (op_move rfl) rfl ?_
            -- r12.8 t69 := move  t10 ?2=False
            refine al_gtake (i := 8) rfl (by kernel_rfl) (by kernel_rfl) (by kernel_rfl) rfl rfl rfl (fun _ _ _ h => h) (op_move rfl) rfl ?_
            -- r12.9 t70 := indexAddr [27] t68 t69 ?2=False
            refine al_gtake (i := 9) rfl (by kernel_rfl) (by kernel_rfl) (by kernel_rfl) rfl rfl rfl (fun _ _ _ h => h) (op_indexN sl_27 rfl rfl (by omega) hoM) rfl ?_
            -- r12.10 t71 := load [3] t70 ?2=False
            refine al_gload (i := 10) rfl (by kernel_rfl) (by kernel_rfl) (by kernel_rfl) rfl rfl rfl (fun _ _ _ h => h) (by exact op_load1 one_3 rfl (fun w hw => hw.gcell hcM)) rfl hT ?_
            -- r12.11 t72 := neq t67 t71 ?2=False
            refine al_gtake (i := 11) rfl (by kernel_rfl) (by kernel_rfl) (by kernel_rfl) rfl rfl rfl (fun _ _ _ h => h) (op_neq rfl rfl) rfl ?_
            -- r12.12 t73 := pick  t63 Ctrue t72
            refine al_take (i := 12) rfl (by kernel_rfl) (by kernel_rfl) (by kernel_rfl) rfl (fun _ _ _ h => h) (op_pick_f rfl rfl) rfl ?_
            refine al_done (by kernel_rfl) ?_
            refine pq_then ?_
            refine cw_cond rfl (fun h73 => ?_) (fun h73 => ?_)
            · skip
              try simp only [decide_eq_true_eq, decide_eq_false_iff_not, Bool.not_eq_true', Bool.not_eq_false', Bool.not_eq_eq_eq_not, Bool.not_true, Bool.not_false] at h73
              refine cw_seq ?_
              refine cw_region ?_
              -- r13.0 t4 := assign  Cfalse
              refine ol_pure rfl (op_assign rfl) ?_
              refine ol_nil ?_
              refine pq_then ?_
              refine cw_ret ?_
              refine pq_in_ret ?_
              refine pq_ret ?_
              refine pq_ret ?_
              refine pq_in_ret ?_
              refine pq_ret ?_
              refine ret1 rfl rfl ?_
              -- ret3 h15f h20f o8 h51t h63f h73t
              exact absurd hsame h73
            · skip
              try simp only [decide_eq_true_eq, decide_eq_false_iff_not, Bool.not_eq_true', Bool.not_eq_false', Bool.not_eq_eq_eq_not, Bool.not_true, Bool.not_false] at h73
              refine cw_skip ?_
              refine pq_in_normal ?_
              refine pq_then ?_
              refine cw_region ?_
              -- r10.0 t52 := move  t9
              refine ol_pure rfl (op_move rfl) ?_
              -- r10.1 t53 := add t52 C1
              refine ol_pure rfl (op_add rfl rfl (by omega) (by omega)) ?_
              -- r10.2 t9 := assign  t53
              refine ol_pure rfl (op_assign rfl) ?_
              refine ol_nil ?_
              -- end of round 1 h15f h20f o8 h51t h63f h73f
              refine pq_loop _ _ (by exact ⟨k + 1, rfl, by omega, rfl, hS⟩) ((Sub.cons rfl (Sub.cons rfl (Sub.cons rfl (Sub.cons rfl (Sub.cons rfl (Sub.cons rfl Sub.nil))))))) (by omega)
        · skip
          try simp only [decide_eq_true_eq, decide_eq_false_iff_not, Bool.not_eq_true', Bool.not_eq_false', Bool.not_eq_eq_eq_not, Bool.not_true, Bool.not_false] at h51
          refine cw_exit ?_
          refine pq_exit ?_
          refine pq_exit ?_
          refine pq_in_exit ?_
          refine pq_then ?_
          refine cw_seq ?_
          refine cw_region ?_
          -- r14.0 t74 := move  t5
          refine ol_pure rfl (op_move rfl) ?_
          -- r14.1 t4 := assign  t74
          refine ol_pure rfl (op_assign rfl) ?_
          refine ol_nil ?_
          refine pq_then ?_
          refine cw_ret ?_
          refine ret1 rfl rfl ?_
          -- ret4 h15f h20f o8 h51f
          exact hS.sc_b rfl
end Go.Proofs.Ytegjmfcfjedfjaa.K
