/-
  The court of layer judge: opened, its steps, what it takes.
  No condition but the premises that each theorem names.
-/
import Derived.Test.YtbpmkidaoemebaaCourt2
namespace Go.Proofs.Ytbpmkidaoemebaa.K
open Go Go.RowKit
set_option linter.unusedVariables false
set_option linter.unusedSimpArgs false

open Pl
theorem and_one (n : Nat) (h : n < 4294967296) : bits .and .u64 (n : Int) 4294967295 = (n : Int) := by
  have h1 := bits_and_u64_nat n 4294967295 (by omega) (by omega)
  have e : n &&& 4294967295 = n % 4294967296 := Nat.and_two_pow_sub_one_eq_mod n 32
  rw [e, Nat.mod_eq_of_lt h] at h1
  exact h1
theorem rep_step (n k : Nat) (a b : Value) (h : k ≤ n) : (List.replicate k a ++ List.replicate (n - k) b).take k ++ List.replicate (min k (n - k)) a ++ (List.replicate k a ++ List.replicate (n - k) b).drop (k + min k (n - k)) = List.replicate (k + min k (n - k)) a ++ List.replicate (n - (k + min k (n - k))) b := by
  rw [List.take_append_of_le_length (by simp), List.take_replicate, List.drop_append, List.drop_replicate, List.drop_replicate, Nat.min_self, List.replicate_append_replicate]
  simp only [List.length_replicate]
  rw [show k - (k + min k (n - k)) = 0 from by omega, List.replicate_zero, List.nil_append, show n - k - (k + min k (n - k) - k) = n - (k + min k (n - k)) from by omega]

set_option maxRecDepth 100000 in

theorem bits_Mul64_c (w0 : World) (a : Nat) (ha : a < 4294967296) :
    Calls Try.prog 74 #[.int .u64 1, .int .u64 (a : Nat)] w0 (Sc w0 (.tuple #[.int .u64 0, .int .u64 (a : Nat)])) := by
  refine enter Try.func74 rfl (N := 51) rfl (Nat.le_of_ble_eq_true rfl) ?_
  have hS := SS.init (G := noG) (w := w0) (fun _ _ h => by cases h)
  refine cw_seq ?_
  refine cw_region ?_
  -- r0.0 t4 := assign  C0
  refine ol_pure rfl (op_assign rfl) ?_
  -- r0.1 t5 := assign  C0
  refine ol_pure rfl (op_assign rfl) ?_
  refine ol_nil ?_
  refine pq_then ?_
  refine cw_seq ?_
  refine cw_region ?_
  -- r1.0 t14 := move  t0
  refine ol_pure rfl (op_move rfl) ?_
  -- r1.1 t15 := and t14 C4294967295
  refine ol_pure rfl (op_val (op_and rfl rfl) (congrArg (Value.int .u64) (and_one 1 (by omega)))) ?_
  -- r1.2 t6 := assign  t15
  refine ol_pure rfl (op_assign rfl) ?_
  refine ol_nil ?_
  refine pq_then ?_
  refine cw_seq ?_
  refine cw_region ?_
  -- r2.0 t16 := move  t0
  refine ol_pure rfl (op_move rfl) ?_
  -- r2.1 t17 := shr t16 C32
  refine ol_pure rfl (op_val (op_shrU rfl rfl (by decide) (by decide)) (v' := .int .u64 0) rfl) ?_
  -- r2.2 t7 := assign  t17
  refine ol_pure rfl (op_assign rfl) ?_
  refine ol_nil ?_
  refine pq_then ?_
  refine cw_seq ?_
  refine cw_region ?_
  -- r3.0 t18 := move  t1
  refine ol_pure rfl (op_move rfl) ?_
  -- r3.1 t19 := and t18 C4294967295
  refine ol_pure rfl (op_val (op_and rfl rfl) (congrArg (Value.int .u64) (and_one a ha))) ?_
  -- r3.2 t8 := assign  t19
  refine ol_pure rfl (op_assign rfl) ?_
  refine ol_nil ?_
  refine pq_then ?_
  refine cw_seq ?_
  refine cw_region ?_
  -- r4.0 t20 := move  t1
  refine ol_pure rfl (op_move rfl) ?_
  -- r4.1 t21 := shr t20 C32
  refine ol_pure rfl (op_val (op_shrU rfl rfl (by decide) (by decide)) (v' := .int .u64 0) (congrArg (Value.int .u64) (by show (a : Int) / 4294967296 = 0; omega))) ?_
  -- r4.2 t9 := assign  t21
  refine ol_pure rfl (op_assign rfl) ?_
  refine ol_nil ?_
  refine pq_then ?_
  refine cw_seq ?_
  refine cw_region ?_
  -- r5.0 t22 := move  t6
  refine ol_pure rfl (op_move rfl) ?_
  -- r5.1 t23 := move  t8
  refine ol_pure rfl (op_move rfl) ?_
  -- r5.2 t24 := mul t22 t23
  refine ol_pure rfl (op_val (op_mulU rfl rfl (by omega) (by omega)) (v' := .int .u64 (a : Nat)) (congrArg (Value.int .u64) (by omega))) ?_
  -- r5.3 t10 := assign  t24
  refine ol_pure rfl (op_assign rfl) ?_
  refine ol_nil ?_
  refine pq_then ?_
  refine cw_seq ?_
  refine cw_region ?_
  -- r6.0 t25 := move  t7
  refine ol_pure rfl (op_move rfl) ?_
  -- r6.1 t26 := move  t8
  refine ol_pure rfl (op_move rfl) ?_
  -- r6.2 t27 := mul t25 t26
  refine ol_pure rfl (op_val (op_mulU rfl rfl (by omega) (by omega)) (v' := .int .u64 0) (congrArg (Value.int .u64) (by omega))) ?_
  -- r6.3 t28 := move  t10
  refine ol_pure rfl (op_move rfl) ?_
  -- r6.4 t29 := shr t28 C32
  refine ol_pure rfl (op_val (op_shrU rfl rfl (by decide) (by decide)) (v' := .int .u64 0) (congrArg (Value.int .u64) (by show (a : Int) / 4294967296 = 0; omega))) ?_
  -- r6.5 t30 := add t27 t29
  refine ol_pure rfl (op_val (op_addU rfl rfl (by omega) (by omega)) (v' := .int .u64 0) rfl) ?_
  -- r6.6 t11 := assign  t30
  refine ol_pure rfl (op_assign rfl) ?_
  refine ol_nil ?_
  refine pq_then ?_
  refine cw_seq ?_
  refine cw_region ?_
  -- r7.0 t31 := move  t11
  refine ol_pure rfl (op_move rfl) ?_
  -- r7.1 t32 := and t31 C4294967295
  refine ol_pure rfl (op_val (op_and rfl rfl) (congrArg (Value.int .u64) (and_one 0 (by omega)))) ?_
  -- r7.2 t12 := assign  t32
  refine ol_pure rfl (op_assign rfl) ?_
  refine ol_nil ?_
  refine pq_then ?_
  refine cw_seq ?_
  refine cw_region ?_
  -- r8.0 t33 := move  t11
  refine ol_pure rfl (op_move rfl) ?_
  -- r8.1 t34 := shr t33 C32
  refine ol_pure rfl (op_val (op_shrU rfl rfl (by decide) (by decide)) (v' := .int .u64 0) rfl) ?_
  -- r8.2 t13 := assign  t34
  refine ol_pure rfl (op_assign rfl) ?_
  refine ol_nil ?_
  refine pq_then ?_
  refine cw_seq ?_
  refine cw_region ?_
  -- r9.0 t35 := move  t12
  refine ol_pure rfl (op_move rfl) ?_
  -- r9.1 t36 := move  t6
  refine ol_pure rfl (op_move rfl) ?_
  -- r9.2 t37 := move  t9
  refine ol_pure rfl (op_move rfl) ?_
  -- r9.3 t38 := mul t36 t37
  refine ol_pure rfl (op_val (op_mulU rfl rfl (by omega) (by omega)) (v' := .int .u64 0) rfl) ?_
  -- r9.4 t39 := add t35 t38
  refine ol_pure rfl (op_val (op_addU rfl rfl (by omega) (by omega)) (v' := .int .u64 0) rfl) ?_
  -- r9.5 t12 := assign  t39
  refine ol_pure rfl (op_assign rfl) ?_
  refine ol_nil ?_
  refine pq_then ?_
  refine cw_seq ?_
  refine cw_region ?_
  -- r10.0 t40 := move  t7
  refine ol_pure rfl (op_move rfl) ?_
  -- r10.1 t41 := move  t9
  refine ol_pure rfl (op_move rfl) ?_
  -- r10.2 t42 := mul t40 t41
  refine ol_pure rfl (op_val (op_mulU rfl rfl (by omega) (by omega)) (v' := .int .u64 0) rfl) ?_
  -- r10.3 t43 := move  t13
  refine ol_pure rfl (op_move rfl) ?_
  -- r10.4 t44 := add t42 t43
  refine ol_pure rfl (op_val (op_addU rfl rfl (by omega) (by omega)) (v' := .int .u64 0) rfl) ?_
  -- r10.5 t45 := move  t12
  refine ol_pure rfl (op_move rfl) ?_
  -- r10.6 t46 := shr t45 C32
  refine ol_pure rfl (op_val (op_shrU rfl rfl (by decide) (by decide)) (v' := .int .u64 0) rfl) ?_
  -- r10.7 t47 := add t44 t46
  refine ol_pure rfl (op_val (op_addU rfl rfl (by omega) (by omega)) (v' := .int .u64 0) rfl) ?_
  -- r10.8 t4 := assign  t47
  refine ol_pure rfl (op_assign rfl) ?_
  refine ol_nil ?_
  refine pq_then ?_
  refine cw_seq ?_
  refine cw_region ?_
  -- r11.0 t48 := move  t0
  refine ol_pure rfl (op_move rfl) ?_
  -- r11.1 t49 := move  t1
  refine ol_pure rfl (op_move rfl) ?_
  -- r11.2 t50 := mul t48 t49
  refine ol_pure rfl (op_val (op_mulU rfl rfl (by omega) (by omega)) (v' := .int .u64 (a : Nat)) (congrArg (Value.int .u64) (by omega))) ?_
  -- r11.3 t5 := assign  t50
  refine ol_pure rfl (op_assign rfl) ?_
  refine ol_nil ?_
  refine pq_then ?_
  refine cw_ret ?_
  refine ret2 rfl rfl rfl ?_
  -- ret1 
  exact hS.sc_eq rfl
set_option maxRecDepth 100000 in

theorem bits_Mul_c (w0 : World) (a : Nat) (ha : a < 4294967296) :
    Calls Try.prog 65 #[.int .u64 1, .int .u64 (a : Nat)] w0 (Sc w0 (.tuple #[.int .u64 0, .int .u64 (a : Nat)])) := by
  refine enter Try.func65 rfl (N := 30) rfl (Nat.le_of_ble_eq_true rfl) ?_
  have hS := SS.init (G := noG) (w := w0) (fun _ _ h => by cases h)
  refine cw_seq ?_
  refine cw_region ?_
  -- r0.0 t4 := assign  C0
  refine ol_pure rfl (op_assign rfl) ?_
  -- r0.1 t5 := assign  C0
  refine ol_pure rfl (op_assign rfl) ?_
  refine ol_nil ?_
  refine pq_then ?_
  refine cw_seq ?_
  refine cw_cond_f rfl ?_
  refine cw_skip ?_
  refine pq_then ?_
  refine cw_seq ?_
  refine cw_region ?_
  -- r3.0 t23 := move  t0
  refine ol_pure rfl (op_move rfl) ?_
  -- r3.1 t24 := move  t1
  refine ol_pure rfl (op_move rfl) ?_
  -- r3.2 t25 := call f74 t23 t24
  refine ol_step rfl (op_call_sc hS cf_74 rfl (bits_Mul64_c _ a ha)) ?_
  clear hS
  rintro _ w ⟨rfl, hS⟩
  -- r3.3 t22 := move  t25
  refine ol_pure rfl (op_move rfl) ?_
  -- r3.4 t26 := extract [0] t22
  refine ol_pure rfl (op_extract (vs := [.int .u64 0, .int .u64 (a : Nat)]) rfl rfl) ?_
  -- r3.5 t27 := extract [1] t22
  refine ol_pure rfl (op_extract (vs := [.int .u64 0, .int .u64 (a : Nat)]) rfl rfl) ?_
  -- r3.6 t8 := assign  t26
  refine ol_pure rfl (op_assign rfl) ?_
  -- r3.7 t9 := assign  t27
  refine ol_pure rfl (op_assign rfl) ?_
  refine ol_nil ?_
  refine pq_then ?_
  refine cw_seq ?_
  refine cw_region ?_
  -- r4.0 t28 := move  t8
  refine ol_pure rfl (op_move rfl) ?_
  -- r4.1 t29 := move  t9
  refine ol_pure rfl (op_move rfl) ?_
  -- r4.2 t4 := assign  t28
  refine ol_pure rfl (op_assign rfl) ?_
  -- r4.3 t5 := assign  t29
  refine ol_pure rfl (op_assign rfl) ?_
  refine ol_nil ?_
  refine pq_then ?_
  refine cw_ret ?_
  refine ret2 rfl rfl rfl ?_
  -- ret2 
  exact hS.sc_eq rfl
set_option maxRecDepth 100000 in
set_option maxHeartbeats 400000 in

theorem slices_Repeat_c {G0 G : GH} {w0 w : World} {M : List Ent} (hS : SS G0 w0 G M w) (v : Value) (x : Int) (h1 : RSl 1 EInt G v [x]) (k0 : Nat) (hk0 : k0 ≤ 1000) :
    Calls Try.prog 48 #[v, .int .i64 (k0 : Nat)] w (fun en w' => ∃ oN cN, en = .returned (.slice oN k0 cN) ∧ SS G0 w0 G (.row oN k0 cN 3 1 ((List.replicate k0 x).map (Value.int .i64)) :: M) w') := by
  obtain ⟨oa, c, rfl, hlc, hcm⟩ := h1.elimN (n := 1) rfl
  have hxb := h1.bnd x (by simp)
  refine enter Try.func48 rfl (N := 48) rfl (Nat.le_of_ble_eq_true rfl) ?_
  skip
  refine cw_seq ?_
  refine cw_region ?_
  -- r0.0 t4 := assign  C(slice (none Addr) 0 0)
  refine ol_pure rfl (op_assign rfl) ?_
  refine ol_nil ?_
  refine pq_then ?_
  refine cw_seq ?_
  refine cw_seq ?_
  refine cw_region ?_
  -- r1.0 t9 := move  t1
  refine ol_pure rfl (op_move rfl) ?_
  -- r1.1 t10 := lss t9 C0
  refine ol_pure rfl (op_lssF rfl rfl (by omega)) ?_
  refine ol_nil ?_
  refine pq_then ?_
  refine cw_cond_f rfl ?_
  refine cw_skip ?_
  refine pq_then ?_
  refine cw_seq ?_
  refine cw_region ?_
  -- r3.0 t13 := move  t0
  refine ol_pure rfl (op_move rfl) ?_
  -- r3.1 t14 := call len t13
  refine ol_pure rfl (op_len sl_29 rfl rfl) ?_
  -- r3.2 t15 := convert [3, 90] t14
  refine ol_pure rfl (op_conv ⟨_, Try.underlying3⟩ Try.underlying90 rfl (by rw [IntKind.wrap_u64]; rfl)) ?_
  -- r3.3 t16 := move  t1
  refine ol_pure rfl (op_move rfl) ?_
  -- r3.4 t17 := convert [3, 90] t16
  refine ol_pure rfl (op_conv ⟨_, Try.underlying3⟩ Try.underlying90 rfl (by rw [IntKind.wrap_u64]; omega)) ?_
  -- r3.5 t18 := call f65 t15 t17
  refine ol_step rfl (op_call_sc hS cf_65 rfl (bits_Mul_c _ k0 (by omega))) ?_
  clear hS
  rintro _ w ⟨rfl, hS⟩
  -- r3.6 t12 := move  t18
  refine ol_pure rfl (op_move rfl) ?_
  -- r3.7 t19 := extract [0] t12
  refine ol_pure rfl (op_extract (vs := [.int .u64 0, .int .u64 (k0 : Nat)]) rfl rfl) ?_
  -- r3.8 t20 := extract [1] t12
  refine ol_pure rfl (op_extract (vs := [.int .u64 0, .int .u64 (k0 : Nat)]) rfl rfl) ?_
  -- r3.9 t5 := assign  t19
  refine ol_pure rfl (op_assign rfl) ?_
  -- r3.10 t6 := assign  t20
  refine ol_pure rfl (op_assign rfl) ?_
  refine ol_nil ?_
  refine pq_then ?_
  refine cw_seq ?_
  refine cw_seq ?_
  refine cw_region ?_
  -- r4.0 t21 := move  t5
  refine ol_pure rfl (op_move rfl) ?_
  -- r4.1 t22 := gtr t21 C0
  refine ol_pure rfl (op_gtrF rfl rfl (by omega)) ?_
  -- r4.2 t23 := move  t22
  refine ol_pure rfl (op_move rfl) ?_
  -- r4.3 t24 := move  t6 ?2=False
  refine ol_guard_pure rfl rfl rfl (op_move rfl) ?_
  -- r4.4 t25 := gtr t24 C9223372036854775807 ?2=False
  refine ol_guard_pure rfl rfl rfl (op_gtrF rfl rfl (by omega)) ?_
  -- r4.5 t26 := pick  t23 Ctrue t25
  refine ol_pure rfl (op_pick_f rfl rfl) ?_
  refine ol_nil ?_
  refine pq_then ?_
  refine cw_cond_f rfl ?_
  refine cw_skip ?_
  refine pq_then ?_
  refine cw_seq ?_
  refine cw_region ?_
  -- r6.0 t28 := move  t6
  refine ol_pure rfl (op_move rfl) ?_
  -- r6.1 t29 := convert [90, 3] t28
  refine ol_pure rfl (op_conv ⟨_, Try.underlying90⟩ Try.underlying3 rfl (IntWalk.i64_in _ ⟨by omega, by omega⟩)) ?_
  -- r6.2 t30 := makeSlice [29] t29 t29
  refine ol_step rfl (op_makeSlice (n := k0) hS sl_29 el_3 rfl rfl rfl (by omega) (by unfold maxLen; omega)) ?_
  clear hS
  rintro _ w ⟨new, rfl, hS⟩
  -- r6.3 t7 := assign  t30
  refine ol_pure rfl (op_assign rfl) ?_
  refine ol_nil ?_
  refine pq_then ?_
  refine cw_seq ?_
  refine cw_region ?_
  -- r7.0 t31 := move  t7
  refine ol_pure rfl (op_move rfl) ?_
  -- r7.1 t32 := move  t0
  refine ol_pure rfl (op_move rfl) ?_
  -- r7.2 t33 := call copy t31 t32
  refine ol_step rfl (op_copy (j := 0) (k := 0) (cs := (List.replicate (min 1 k0) (Value.int .i64 x))) hS sl_29 rfl rfl rfl rfl (.inr (by cases new <;> simp [add_zero''])) (by simp) (by simp; omega) (fun i u hu => by have hh := h1.newsI hS.hold i u (by rw [List.getElem?_replicate] at hu; split at hu; rename_i hi; cases hu; rw [show i = 0 from by omega]; rfl; cases hu); exact hh) (fun u hu => by rw [List.eq_of_mem_replicate hu]; rfl)) ?_
  clear hS
  rintro _ w ⟨rfl, hS⟩; (try simp only [List.nil_append, List.cons_append, List.set] at hS)
  have hrs := rep_step k0 0 (Value.int .i64 x) (Value.int .i64 0) (Nat.zero_le _)
  have hS2 : SS G0 w0 G (.row new k0 k0 3 1 (List.replicate (min 1 k0) (Value.int .i64 x) ++ List.replicate (k0 - min 1 k0) (Value.int .i64 0)) :: M) w := by
    simpa using hS
  clear hS hrs
  have hS := hS2
  clear hS2
  -- r7.3 t8 := assign  t33
  refine ol_pure rfl (op_assign rfl) ?_
  refine ol_nil ?_
  refine pq_then ?_
  refine cw_seq ?_
  refine cw_block ?_
  refine cw_loop (fun e w n => ∃ k : Nat, e = [(7, .slice new k0 k0), (8, .int .i64 (k : Nat))] ∧ min 1 k0 ≤ k ∧ k ≤ k0 ∧ n = k0 - k ∧ SS G0 w0 G (.row new k0 k0 3 1 (List.replicate k (Value.int .i64 x) ++ List.replicate (k0 - k) (Value.int .i64 0)) :: M) w) _ _ (by exact ⟨(List.replicate (min 1 k0) (Value.int .i64 x)).length, rfl, by simp, by simp; omega, rfl, by rw [List.length_replicate]; exact hS⟩) ((Sub.cons rfl (Sub.cons rfl Sub.nil))) ?_
  clear hS
  rintro e w n ⟨k, rfl, hk1, hk, rfl, hS⟩
  refine cw_seq ?_
  refine cw_seq ?_
  refine cw_region ?_
  -- r8.0 t34 := move  t8
  refine ol_pure rfl (op_move rfl) ?_
  -- r8.1 t35 := move  t7
  refine ol_pure rfl (op_move rfl) ?_
  -- r8.2 t36 := call len t35
  refine ol_pure rfl (op_len sl_29 rfl rfl) ?_
  -- r8.3 t37 := lss t34 t36
  refine ol_pure rfl (op_lss rfl rfl) ?_
  refine ol_nil ?_
  refine pq_then ?_
  refine cw_cond rfl (fun h37 => ?_) (fun h37 => ?_)
  · skip
    try simp only [decide_eq_true_eq, decide_eq_false_iff_not, Bool.not_eq_true', Bool.not_eq_false', Bool.not_eq_eq_eq_not, Bool.not_true, Bool.not_false] at h37
    have hlt : k < k0 := by omega
    refine cw_skip ?_
    refine pq_then ?_
    refine cw_block ?_
    refine al_start' hS (hS.take 0) (by kernel_rfl) rfl (fun w hS hT => ?_)
    -- r9.0 t38 := move  t8
    refine al_take (i := 0) rfl (by kernel_rfl) (by kernel_rfl) (by kernel_rfl) rfl (fun _ _ _ h => h) (op_move rfl) rfl ?_
    -- r9.1 t39 := move  t7
    refine al_take (i := 1) rfl (by kernel_rfl) (by kernel_rfl) (by kernel_rfl) rfl (fun _ _ _ h => h) (op_move rfl) rfl ?_
    -- r9.2 t40 := move  t8
    refine al_take (i := 2) rfl (by kernel_rfl) (by kernel_rfl) (by kernel_rfl) rfl (fun _ _ _ h => h) (op_move rfl) rfl ?_
    -- r9.3 t41 := slice t39 [t40::]
    refine al_take (i := 3) rfl (by kernel_rfl) (by kernel_rfl) (by kernel_rfl) rfl (fun _ _ _ h => h) (op_slice_l (l := k) sl_29 rfl rfl (by omega)) rfl ?_
    -- r9.4 t42 := move  t7
    refine al_take (i := 4) rfl (by kernel_rfl) (by kernel_rfl) (by kernel_rfl) rfl (fun _ _ _ h => h) (op_move rfl) rfl ?_
    -- r9.5 t43 := move  t8
    refine al_take (i := 5) rfl (by kernel_rfl) (by kernel_rfl) (by kernel_rfl) rfl (fun _ _ _ h => h) (op_move rfl) rfl ?_
    -- r9.6 t44 := slice t42 [:t43:]
    refine al_take (i := 6) rfl (by kernel_rfl) (by kernel_rfl) (by kernel_rfl) rfl (fun _ _ _ h => h) (op_slice_h (h := k) sl_29 rfl rfl (by omega)) rfl ?_
    refine al_step (i := 7) rfl (by kernel_rfl) rfl (op_copy (j := 0) (k := k) (cs := (List.replicate (min k (k0 - k)) (Value.int .i64 x))) hS sl_29 rfl rfl rfl rfl (.inr (by rw [if_neg (by omega), Nat.mul_one])) (by simp) (by simp; omega) (fun i u hu => by
      have hi : i < min k (k0 - k) := by have := (List.getElem?_eq_some_iff.1 hu).1; simpa using this
      have h5 := hS.news (j := 0) rfl i u (by rw [List.getElem?_append_left (by simp; omega)]; rw [List.getElem?_replicate] at hu ⊢; rw [if_pos hi] at hu; rw [if_pos (by omega)]; exact hu)
      rw [if_neg (by omega)]
      refine ⟨by simp [h5.1], ?_⟩
      cases new with
      | none => cases h5.1
      | some a => simpa [elA_some, add_zero''] using h5.2) (fun u hu => by rw [List.eq_of_mem_replicate hu]; rfl)) ?_
    clear hS
    rintro _ w ⟨rfl, hS⟩; (try simp only [List.nil_append, List.cons_append, List.set] at hS)
    rw [List.length_replicate, rep_step k0 k _ _ (by omega)] at hS
    refine ⟨no_need (by kernel_rfl), ?_⟩
    -- r9.8 t46 := add t38 t45
    refine al_take (i := 8) rfl (by kernel_rfl) (by kernel_rfl) (by kernel_rfl) rfl (fun _ _ _ h => h) (op_val (op_add rfl rfl (by simp; omega) (by simp; omega)) (v' := .int .i64 ((k + min k (k0 - k) : Nat) : Int)) (congrArg (Value.int .i64) (by simp))) rfl ?_
    -- r9.9 t8 := assign  t46
    refine al_take (i := 9) rfl (by kernel_rfl) (by kernel_rfl) (by kernel_rfl) rfl (fun _ _ _ h => h) (op_assign rfl) rfl ?_
    refine al_done (by kernel_rfl) ?_
    refine pq_in_normal ?_
    -- end of round 1 h37t
    refine pq_loop _ _ (by exact ⟨k + min k (k0 - k), rfl, by omega, by omega, rfl, hS⟩) ((Sub.cons rfl (Sub.cons rfl Sub.nil))) (by omega)
  · skip
    try simp only [decide_eq_true_eq, decide_eq_false_iff_not, Bool.not_eq_true', Bool.not_eq_false', Bool.not_eq_eq_eq_not, Bool.not_true, Bool.not_false] at h37
    refine cw_exit ?_
    refine pq_exit ?_
    refine pq_exit ?_
    refine pq_in_exit ?_
    refine pq_then ?_
    refine cw_seq ?_
    refine cw_region ?_
    -- r10.0 t47 := move  t7
    refine ol_pure rfl (op_move rfl) ?_
    -- r10.1 t4 := assign  t47
    refine ol_pure rfl (op_assign rfl) ?_
    refine ol_nil ?_
    refine pq_then ?_
    refine cw_ret ?_
    refine ret1 rfl rfl ?_
    -- ret1 h37f
    have hke : k = k0 := by omega
    subst hke
    rw [Nat.sub_self, List.replicate_zero, List.append_nil] at hS
    exact ⟨new, k, rfl, by simpa using hS⟩
end Go.Proofs.Ytbpmkidaoemebaa.K
