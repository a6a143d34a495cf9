/-
  The law package of layer 17: its calls whose answers the document fixes.
  No condition but the premises that each theorem names.
-/
import Derived.Test.YtegjmfcfjedfjaaRef17
import Derived.Test.YtegjmfcfjedfjaaRight
namespace Go.Proofs.Ytegjmfcfjedfjaa.K
open Go Go.RowKit
set_option linter.unusedVariables false
set_option linter.unusedSimpArgs false

open Pl

set_option maxRecDepth 100000 in
set_option maxHeartbeats 400000 in

theorem L17_atoms_c (G : GH) (w0 : World) (hG : Holds G w0) (n0 : Nat) (hn : n0 ≤ 100) :
    Calls Try.prog 30 #[.int .i64 (n0 : Nat)] w0 (Rt noG w0 (fun G v => RSl 1 ETriv G v (List.replicate n0 ()))) := by
  refine enter Try.func30 rfl (N := 22) rfl (Nat.le_of_ble_eq_true rfl) ?_
  have hS := SS.init hG
  refine cw_seq ?_
  refine cw_region ?_
  -- r0.0 t2 := assign  C(slice (none Addr) 0 0)
  refine ol_pure rfl (op_assign rfl) ?_
  refine ol_nil ?_
  refine pq_then ?_
  refine cw_seq ?_
  refine cw_region ?_
  -- r1.0 t5 := buildSlice [22, 0] 
  refine ol_step rfl (op_buildSlice (el := 46) (is := []) (xs := []) (sz := 1) (cs := []) hS rfl rfl (fun w => by kernel_rfl) rfl (by decide)) ?_
  clear hS
  rintro _ w ⟨o3, rfl, hS⟩
  -- r1.1 t3 := assign  t5
  refine ol_pure rfl (op_assign rfl) ?_
  refine ol_nil ?_
  refine pq_then ?_
  refine cw_seq ?_
  refine cw_seq ?_
  refine cw_region ?_
  -- r2.0 t4 := assign  C0
  refine ol_pure rfl (op_assign rfl) ?_
  refine ol_nil ?_
  refine pq_then ?_
  refine cw_block ?_
  refine cw_loop (fun e w n => ∃ k o3 c3 us, e = [(0, .int .i64 (n0 : Nat)), (3, .slice o3 k c3), (4, .int .i64 (k : Nat))] ∧ k ≤ n0 ∧ n = n0 - k ∧ SS G w0 G [.row o3 k c3 46 1 us] w) _ _ (by exact ⟨0, o3, _, [], rfl, Nat.zero_le _, rfl, hS⟩) ((Sub.cons rfl (Sub.cons rfl (Sub.cons rfl Sub.nil)))) ?_
  clear hS
  rintro e w n ⟨k, o3, c3, us, rfl, hk, rfl, hS⟩
  refine cw_seq ?_
  refine cw_seq ?_
  refine cw_region ?_
  -- r3.0 t6 := move  t4
  refine ol_pure rfl (op_move rfl) ?_
  -- r3.1 t7 := move  t0
  refine ol_pure rfl (op_move rfl) ?_
  -- r3.2 t8 := lss t6 t7
  refine ol_pure rfl (op_lss rfl rfl) ?_
  refine ol_nil ?_
  refine pq_then ?_
  refine cw_cond rfl (fun h8 => ?_) (fun h8 => ?_)
  · skip
    try simp only [decide_eq_true_eq, decide_eq_false_iff_not, Bool.not_eq_true', Bool.not_eq_false', Bool.not_eq_eq_eq_not, Bool.not_true, Bool.not_false] at h8
    have hlt : k < n0 := by omega
    refine cw_skip ?_
    refine pq_then ?_
    refine cw_seq ?_
    refine cw_block ?_
    refine cw_region ?_
    -- r5.0 t11 := move  t3
    refine ol_pure rfl (op_move rfl) ?_
    -- r5.1 t12 := move  t4
    refine ol_pure rfl (op_move rfl) ?_
    -- r5.2 t13 := add C97 t12
    refine ol_pure rfl (op_add rfl rfl (by omega) (by omega)) ?_
    -- r5.3 t14 := convert [3, 5] t13
    refine ol_pure rfl (op_conv ⟨_, Try.underlying3⟩ Try.underlying5 rfl (by exact wraps_u8 _ (by omega) (by omega))) ?_
    -- r5.4 t15 := buildSlice [60, 1] 0:t14
    refine ol_step rfl (op_buildSlice (el := 5) (is := [0]) (xs := [.tmp 14]) (sz := 1) (cs := [.int .u8 (97 + (k : Int))]) hS rfl rfl (fun w => by kernel_rfl) rfl (by decide)) ?_
    clear hS
    rintro _ w ⟨s15, rfl, hS⟩
    -- r5.5 t16 := convert [60, 9] t15
    refine ol_load rfl (op_convBS [97 + (k : Int)] Try.underlying60 Try.underlying5 Try.underlying9 rfl rfl (by decide) (fun w hw => hw.news (j := 0) rfl)) hS ?_
    -- r5.6 t17 := build [62] 0:C3 1:t16
    refine ol_pure rfl (op_build (is := [0, 1]) (xs := [.const (.int .i64 (3)), .tmp 16]) (v := .agg #[.int .i64 3, .string (strOf [97 + (k : Int)]), .int .i64 0]) rfl rfl (fun w => by kernel_rfl)) ?_
    -- r5.7 t18 := buildSlice [46, 1] 0:t17
    refine ol_step rfl (op_buildSlice (el := 62) (is := [0]) (xs := [.tmp 17]) (sz := 3) (cs := [.int .i64 3, .string (strOf [97 + (k : Int)]), .int .i64 0]) hS rfl rfl (fun w => by kernel_rfl) rfl (by decide)) ?_
    clear hS
    rintro _ w ⟨s18, rfl, hS⟩
    -- r5.8 t19 := buildSlice [22, 1] 0:t18
    refine ol_step rfl (op_buildSlice (el := 46) (is := [0]) (xs := [.tmp 18]) (sz := 1) (cs := [.slice s18 1 1]) hS rfl rfl (fun w => by kernel_rfl) rfl (by decide)) ?_
    clear hS
    rintro _ w ⟨s19, rfl, hS⟩
    -- r5.9 t20 := call append t11 t19
    refine ol_step rfl (op_append (j := 3) hS sl_22 el_46 rfl rfl rfl rfl rfl rfl (by decide) (hS.news (j := 0) rfl) (by simp [Value.oneCell']) (by omega) (by unfold maxLen; omega)) ?_
    clear hS
    rintro _ w ⟨o3n, c_o3n, rfl, hS⟩; (try simp only [List.nil_append, List.cons_append, List.set] at hS); replace hS := SS.drop [] hS; (try simp only [List.nil_append, List.cons_append] at hS)
    -- r5.10 t3 := assign  t20
    refine ol_pure rfl (op_assign rfl) ?_
    refine ol_nil ?_
    refine pq_in_normal ?_
    refine pq_then ?_
    refine cw_region ?_
    -- r4.0 t9 := move  t4
    refine ol_pure rfl (op_move rfl) ?_
    -- r4.1 t10 := add t9 C1
    refine ol_pure rfl (op_add rfl rfl (by omega) (by omega)) ?_
    -- r4.2 t4 := assign  t10
    refine ol_pure rfl (op_assign rfl) ?_
    refine ol_nil ?_
    -- end of round 1 h8t
    refine pq_loop _ _ (by exact (by replace hS := SS.drop [] (SS.drop [] hS); exact ⟨k + 1, o3n, c_o3n, _, rfl, by omega, rfl, hS⟩)) ((Sub.cons rfl (Sub.cons rfl (Sub.cons rfl Sub.nil)))) (by omega)
  · skip
    try simp only [decide_eq_true_eq, decide_eq_false_iff_not, Bool.not_eq_true', Bool.not_eq_false', Bool.not_eq_eq_eq_not, Bool.not_true, Bool.not_false] at h8
    refine cw_exit ?_
    refine pq_exit ?_
    refine pq_exit ?_
    refine pq_in_exit ?_
    refine pq_then ?_
    refine cw_seq ?_
    refine cw_region ?_
    -- r6.0 t21 := move  t3
    refine ol_pure rfl (op_move rfl) ?_
    -- r6.1 t2 := assign  t21
    refine ol_pure rfl (op_assign rfl) ?_
    refine ol_nil ?_
    refine pq_then ?_
    refine cw_ret ?_
    refine ret1 rfl rfl ?_
    -- ret1 h8f
    have hk0 : k = n0 := by omega
    subst hk0
    have hul := (hS.row_len []).1
    exact hS.rt_row [] (by decide) ⟨by rw [hul]; simp, fun _ _ _ => trivial⟩ ETriv.mono (by simp)
def rs1 : List Rule := [⟨0, [], [1]⟩]
theorem ok1 : PrOk (List.replicate 2 ()).length rs1 := ⟨by decide, by decide, by simp [rs1, RuleOk]⟩
def rs2 : List Rule := [⟨0, [], [1]⟩, ⟨1, [], [0]⟩, ⟨2, [0], []⟩, ⟨2, [1], []⟩]
theorem ok2 : PrOk (List.replicate 3 ()).length rs2 := ⟨by decide, by decide, by simp [rs2, RuleOk]⟩
def rs3 : List Rule := [⟨0, [0], []⟩, ⟨1, [], [0]⟩]
theorem ok3 : PrOk (List.replicate 2 ()).length rs3 := ⟨by decide, by decide, by simp [rs3, RuleOk]⟩
def rs4 : List Rule := [⟨0, [], [0]⟩]
theorem ok4 : PrOk (List.replicate 1 ()).length rs4 := ⟨by decide, by decide, by simp [rs4, RuleOk]⟩

theorem SS.give' {G0 G : GH} {w0 w : World} {M : List Ent} {α : Type} {E : ER α} (zs : List α) (pre : List Ent) {oa : Option Addr} {n c : Nat} {T : TypeId} {sz : Nat} {xs : List Value} (hE : EMono E) (h : SS G0 w0 G (pre ++ .row oa n c T sz xs :: M) w) (hsz : 0 < sz) (hr : Rows sz E G xs zs) (hn : n = zs.length) :
    ∃ G', Le G G' ∧ SS G0 w0 G' (pre ++ M) w ∧ RSl sz E G' (.slice oa n c) zs := h.give pre hsz hE hr hn
theorem oneInt (G : GH) (x : Int) (h : -9223372036854775808 ≤ x ∧ x ≤ 9223372036854775807) : Rows 1 EInt G [.int .i64 x] [x] := Rows.of_map (xs := [x]) (f := Value.int .i64) (fun y hy => by
  have : y = x := by simpa using hy
  subst this
  exact ⟨rfl, h⟩)

set_option maxRecDepth 100000 in
set_option maxHeartbeats 2000000 in

theorem L17_head_c (G : GH) (w0 : World) (hG : Holds G w0) :
    Calls Try.prog 12 #[] w0 (Sc w0 (.bool true)) := by
  refine enter Try.func12 rfl (N := 93) rfl (Nat.le_of_ble_eq_true rfl) ?_
  have hS := SS.init hG
  refine cw_seq ?_
  refine cw_region ?_
  -- r0.0 t0 := assign  Cfalse
  refine ol_pure rfl (op_assign rfl) ?_
  refine ol_nil ?_
  refine pq_then ?_
  refine cw_seq ?_
  refine cw_region ?_
  -- r1.0 t5 := call f30 C2
  refine ol_step rfl (op_call_fr hS cf_30 rfl (L17_atoms_c _ _ hS.hold 2 (by decide))) ?_
  clear hS
  rintro v5 w ⟨F5, Ga1, hR5, hF5, hf5, hl5, hS⟩
  obtain ⟨oA1, cA1, rfl, _, _⟩ := hR5.elimN (by simp : (List.replicate 2 ()).length = 2)
  have hA1 := hR5.mono ETriv.mono hf5
  clear hR5
  
  -- r1.1 t6 := buildSlice [27, 1] 0:C1
  refine ol_step rfl (op_buildSlice (el := 3) (is := [0]) (xs := [.const (.int .i64 (1))]) (sz := 1) (cs := [.int .i64 (1)]) hS rfl rfl (fun w => by kernel_rfl) rfl (by decide)) ?_
  clear hS
  rintro _ w ⟨s6, rfl, hS⟩
  obtain ⟨Gs6, hlGs6, hS2, hs6⟩ := SS.give' [1] [] EInt.mono hS (by decide) (oneInt _ _ (by decide)) rfl
  clear hS
  have hS := hS2
  clear hS2
  (try simp only [List.nil_append, List.cons_append] at hS)
  replace hA1 := hA1.mono ETriv.mono hlGs6
  -- r1.2 t7 := build [42] 0:C0 2:t6
  refine ol_pure rfl (op_build (is := [0, 2]) (xs := [.const (.int .i64 (0)), .tmp 6]) (v := .agg #[.int .i64 0, .slice none 0 0, .slice s6 1 1]) rfl rfl (fun w => by kernel_rfl)) ?_
  -- r1.3 t8 := buildSlice [23, 1] 0:t7
  refine ol_step rfl (op_buildSlice (el := 42) (is := [0]) (xs := [.tmp 7]) (sz := 3) (cs := [.int .i64 0, .slice none 0 0, .slice s6 1 1]) hS rfl rfl (fun w => by kernel_rfl) rfl (by decide)) ?_
  clear hS
  rintro _ w ⟨s8, rfl, hS⟩
  obtain ⟨Gr1, hlGr1, hS2, hR1⟩ := SS.give' rs1 [] ERule.mono hS (by decide) (by exact ((Rows.nil (sz := 3) (E := ERule) _).snoc (x := ⟨0, [], [1]⟩) (cs := [.int .i64 0, .slice none 0 0, .slice s6 1 1]) rfl ⟨_, _, rfl, .nil _, hs6, by decide, by decide⟩)) rfl
  clear hS
  have hS := hS2
  clear hS2
  (try simp only [List.nil_append, List.cons_append] at hS)
  replace hA1 := hA1.mono ETriv.mono hlGr1
  replace hs6 := hs6.mono EInt.mono hlGr1
  -- r1.4 t9 := build [25] 0:t5 1:t8
  refine ol_pure rfl (op_build (is := [0, 1]) (xs := [.tmp 5, .tmp 8]) (v := .agg #[.slice oA1 2 cA1, .slice s8 1 1]) rfl rfl (fun w => by kernel_rfl)) ?_
  -- r1.5 t1 := alloc [25] 
  refine ol_step rfl (op_alloc hS el_25 rfl) ?_
  clear hS
  rintro _ w ⟨b1, rfl, hS⟩
  -- r1.6 _ := store [25] t1 t9
  refine ol_step0  (op_storeN (j := 0) hS sz_25 rfl rfl rfl rfl rfl (by simp [Value.oneCell'])) ?_
  clear hS
  rintro _ w hS; (try simp only [List.nil_append, List.cons_append, List.set] at hS)
  refine ol_nil ?_
  refine pq_then ?_
  refine cw_seq ?_
  refine cw_region ?_
  -- r2.0 t10 := call f30 C3
  refine ol_step rfl (op_call_fr hS cf_30 rfl (L17_atoms_c _ _ hS.hold 3 (by decide))) ?_
  clear hS
  rintro v10 w ⟨F10, Ga2, hR10, hF10, hf10, hl10, hS⟩
  obtain ⟨oA2, cA2, rfl, _, _⟩ := hR10.elimN (by simp : (List.replicate 3 ()).length = 3)
  have hA2 := hR10.mono ETriv.mono hf10
  clear hR10
  replace hA1 := hA1.mono ETriv.mono hl10
  replace hR1 := hR1.mono ERule.mono hl10
  -- r2.1 t11 := buildSlice [27, 1] 0:C1
  refine ol_step rfl (op_buildSlice (el := 3) (is := [0]) (xs := [.const (.int .i64 (1))]) (sz := 1) (cs := [.int .i64 (1)]) hS rfl rfl (fun w => by kernel_rfl) rfl (by decide)) ?_
  clear hS
  rintro _ w ⟨s11, rfl, hS⟩
  obtain ⟨Gs11, hlGs11, hS2, hs11⟩ := SS.give' [1] [] EInt.mono hS (by decide) (oneInt _ _ (by decide)) rfl
  clear hS
  have hS := hS2
  clear hS2
  (try simp only [List.nil_append, List.cons_append] at hS)
  replace hA1 := hA1.mono ETriv.mono hlGs11
  replace hR1 := hR1.mono ERule.mono hlGs11
  replace hA2 := hA2.mono ETriv.mono hlGs11
  -- r2.2 t12 := build [42] 0:C0 2:t11
  refine ol_pure rfl (op_build (is := [0, 2]) (xs := [.const (.int .i64 (0)), .tmp 11]) (v := .agg #[.int .i64 0, .slice none 0 0, .slice s11 1 1]) rfl rfl (fun w => by kernel_rfl)) ?_
  -- r2.3 t13 := buildSlice [27, 1] 0:C0
  refine ol_step rfl (op_buildSlice (el := 3) (is := [0]) (xs := [.const (.int .i64 (0))]) (sz := 1) (cs := [.int .i64 (0)]) hS rfl rfl (fun w => by kernel_rfl) rfl (by decide)) ?_
  clear hS
  rintro _ w ⟨s13, rfl, hS⟩
  obtain ⟨Gs13, hlGs13, hS2, hs13⟩ := SS.give' [0] [] EInt.mono hS (by decide) (oneInt _ _ (by decide)) rfl
  clear hS
  have hS := hS2
  clear hS2
  (try simp only [List.nil_append, List.cons_append] at hS)
  replace hA1 := hA1.mono ETriv.mono hlGs13
  replace hR1 := hR1.mono ERule.mono hlGs13
  replace hA2 := hA2.mono ETriv.mono hlGs13
  replace hs11 := hs11.mono EInt.mono hlGs13
  -- r2.4 t14 := build [42] 0:C1 2:t13
  refine ol_pure rfl (op_build (is := [0, 2]) (xs := [.const (.int .i64 (1)), .tmp 13]) (v := .agg #[.int .i64 1, .slice none 0 0, .slice s13 1 1]) rfl rfl (fun w => by kernel_rfl)) ?_
  -- r2.5 t15 := buildSlice [27, 1] 0:C0
  refine ol_step rfl (op_buildSlice (el := 3) (is := [0]) (xs := [.const (.int .i64 (0))]) (sz := 1) (cs := [.int .i64 (0)]) hS rfl rfl (fun w => by kernel_rfl) rfl (by decide)) ?_
  clear hS
  rintro _ w ⟨s15, rfl, hS⟩
  obtain ⟨Gs15, hlGs15, hS2, hs15⟩ := SS.give' [0] [] EInt.mono hS (by decide) (oneInt _ _ (by decide)) rfl
  clear hS
  have hS := hS2
  clear hS2
  (try simp only [List.nil_append, List.cons_append] at hS)
  replace hA1 := hA1.mono ETriv.mono hlGs15
  replace hR1 := hR1.mono ERule.mono hlGs15
  replace hA2 := hA2.mono ETriv.mono hlGs15
  replace hs11 := hs11.mono EInt.mono hlGs15
  replace hs13 := hs13.mono EInt.mono hlGs15
  -- r2.6 t16 := build [42] 0:C2 1:t15
  refine ol_pure rfl (op_build (is := [0, 1]) (xs := [.const (.int .i64 (2)), .tmp 15]) (v := .agg #[.int .i64 2, .slice s15 1 1, .slice none 0 0]) rfl rfl (fun w => by kernel_rfl)) ?_
  -- r2.7 t17 := buildSlice [27, 1] 0:C1
  refine ol_step rfl (op_buildSlice (el := 3) (is := [0]) (xs := [.const (.int .i64 (1))]) (sz := 1) (cs := [.int .i64 (1)]) hS rfl rfl (fun w => by kernel_rfl) rfl (by decide)) ?_
  clear hS
  rintro _ w ⟨s17, rfl, hS⟩
  obtain ⟨Gs17, hlGs17, hS2, hs17⟩ := SS.give' [1] [] EInt.mono hS (by decide) (oneInt _ _ (by decide)) rfl
  clear hS
  have hS := hS2
  clear hS2
  (try simp only [List.nil_append, List.cons_append] at hS)
  replace hA1 := hA1.mono ETriv.mono hlGs17
  replace hR1 := hR1.mono ERule.mono hlGs17
  replace hA2 := hA2.mono ETriv.mono hlGs17
  replace hs11 := hs11.mono EInt.mono hlGs17
  replace hs13 := hs13.mono EInt.mono hlGs17
  replace hs15 := hs15.mono EInt.mono hlGs17
  -- r2.8 t18 := build [42] 0:C2 1:t17
  refine ol_pure rfl (op_build (is := [0, 1]) (xs := [.const (.int .i64 (2)), .tmp 17]) (v := .agg #[.int .i64 2, .slice s17 1 1, .slice none 0 0]) rfl rfl (fun w => by kernel_rfl)) ?_
  -- r2.9 t19 := buildSlice [23, 4] 0:t12 1:t14 2:t16 3:t18
  refine ol_step rfl (op_buildSlice (el := 42) (is := [0, 1, 2, 3]) (xs := [.tmp 12, .tmp 14, .tmp 16, .tmp 18]) (sz := 3) (cs := [.int .i64 0, .slice none 0 0, .slice s11 1 1, .int .i64 1, .slice none 0 0, .slice s13 1 1, .int .i64 2, .slice s15 1 1, .slice none 0 0, .int .i64 2, .slice s17 1 1, .slice none 0 0]) hS rfl rfl (fun w => by kernel_rfl) rfl (by decide)) ?_
  clear hS
  rintro _ w ⟨s19, rfl, hS⟩
  obtain ⟨Gr2, hlGr2, hS2, hR2⟩ := SS.give' rs2 [] ERule.mono hS (by decide) (by exact (((((Rows.nil (sz := 3) (E := ERule) _).snoc (x := ⟨0, [], [1]⟩) (cs := [.int .i64 0, .slice none 0 0, .slice s11 1 1]) rfl ⟨_, _, rfl, .nil _, hs11, by decide, by decide⟩).snoc (x := ⟨1, [], [0]⟩) (cs := [.int .i64 1, .slice none 0 0, .slice s13 1 1]) rfl ⟨_, _, rfl, .nil _, hs13, by decide, by decide⟩).snoc (x := ⟨2, [0], []⟩) (cs := [.int .i64 2, .slice s15 1 1, .slice none 0 0]) rfl ⟨_, _, rfl, hs15, .nil _, by decide, by decide⟩).snoc (x := ⟨2, [1], []⟩) (cs := [.int .i64 2, .slice s17 1 1, .slice none 0 0]) rfl ⟨_, _, rfl, hs17, .nil _, by decide, by decide⟩)) rfl
  clear hS
  have hS := hS2
  clear hS2
  (try simp only [List.nil_append, List.cons_append] at hS)
  replace hA1 := hA1.mono ETriv.mono hlGr2
  replace hR1 := hR1.mono ERule.mono hlGr2
  replace hA2 := hA2.mono ETriv.mono hlGr2
  replace hs11 := hs11.mono EInt.mono hlGr2
  replace hs13 := hs13.mono EInt.mono hlGr2
  replace hs15 := hs15.mono EInt.mono hlGr2
  replace hs17 := hs17.mono EInt.mono hlGr2
  -- r2.10 t20 := build [25] 0:t10 1:t19
  refine ol_pure rfl (op_build (is := [0, 1]) (xs := [.tmp 10, .tmp 19]) (v := .agg #[.slice oA2 3 cA2, .slice s19 4 4]) rfl rfl (fun w => by kernel_rfl)) ?_
  -- r2.11 t2 := alloc [25] 
  refine ol_step rfl (op_alloc hS el_25 rfl) ?_
  clear hS
  rintro _ w ⟨b2, rfl, hS⟩
  -- r2.12 _ := store [25] t2 t20
  refine ol_step0  (op_storeN (j := 0) hS sz_25 rfl rfl rfl rfl rfl (by simp [Value.oneCell'])) ?_
  clear hS
  rintro _ w hS; (try simp only [List.nil_append, List.cons_append, List.set] at hS)
  refine ol_nil ?_
  refine pq_then ?_
  refine cw_seq ?_
  refine cw_region ?_
  -- r3.0 t21 := call f30 C2
  refine ol_step rfl (op_call_fr hS cf_30 rfl (L17_atoms_c _ _ hS.hold 2 (by decide))) ?_
  clear hS
  rintro v21 w ⟨F21, Ga3, hR21, hF21, hf21, hl21, hS⟩
  obtain ⟨oA3, cA3, rfl, _, _⟩ := hR21.elimN (by simp : (List.replicate 2 ()).length = 2)
  have hA3 := hR21.mono ETriv.mono hf21
  clear hR21
  replace hA1 := hA1.mono ETriv.mono hl21
  replace hR1 := hR1.mono ERule.mono hl21
  replace hA2 := hA2.mono ETriv.mono hl21
  replace hR2 := hR2.mono ERule.mono hl21
  -- r3.1 t22 := buildSlice [27, 1] 0:C0
  refine ol_step rfl (op_buildSlice (el := 3) (is := [0]) (xs := [.const (.int .i64 (0))]) (sz := 1) (cs := [.int .i64 (0)]) hS rfl rfl (fun w => by kernel_rfl) rfl (by decide)) ?_
  clear hS
  rintro _ w ⟨s22, rfl, hS⟩
  obtain ⟨Gs22, hlGs22, hS2, hs22⟩ := SS.give' [0] [] EInt.mono hS (by decide) (oneInt _ _ (by decide)) rfl
  clear hS
  have hS := hS2
  clear hS2
  (try simp only [List.nil_append, List.cons_append] at hS)
  replace hA1 := hA1.mono ETriv.mono hlGs22
  replace hR1 := hR1.mono ERule.mono hlGs22
  replace hA2 := hA2.mono ETriv.mono hlGs22
  replace hR2 := hR2.mono ERule.mono hlGs22
  replace hA3 := hA3.mono ETriv.mono hlGs22
  -- r3.2 t23 := build [42] 0:C0 1:t22
  refine ol_pure rfl (op_build (is := [0, 1]) (xs := [.const (.int .i64 (0)), .tmp 22]) (v := .agg #[.int .i64 0, .slice s22 1 1, .slice none 0 0]) rfl rfl (fun w => by kernel_rfl)) ?_
  -- r3.3 t24 := buildSlice [27, 1] 0:C0
  refine ol_step rfl (op_buildSlice (el := 3) (is := [0]) (xs := [.const (.int .i64 (0))]) (sz := 1) (cs := [.int .i64 (0)]) hS rfl rfl (fun w => by kernel_rfl) rfl (by decide)) ?_
  clear hS
  rintro _ w ⟨s24, rfl, hS⟩
  obtain ⟨Gs24, hlGs24, hS2, hs24⟩ := SS.give' [0] [] EInt.mono hS (by decide) (oneInt _ _ (by decide)) rfl
  clear hS
  have hS := hS2
  clear hS2
  (try simp only [List.nil_append, List.cons_append] at hS)
  replace hA1 := hA1.mono ETriv.mono hlGs24
  replace hR1 := hR1.mono ERule.mono hlGs24
  replace hA2 := hA2.mono ETriv.mono hlGs24
  replace hR2 := hR2.mono ERule.mono hlGs24
  replace hA3 := hA3.mono ETriv.mono hlGs24
  replace hs22 := hs22.mono EInt.mono hlGs24
  -- r3.4 t25 := build [42] 0:C1 2:t24
  refine ol_pure rfl (op_build (is := [0, 2]) (xs := [.const (.int .i64 (1)), .tmp 24]) (v := .agg #[.int .i64 1, .slice none 0 0, .slice s24 1 1]) rfl rfl (fun w => by kernel_rfl)) ?_
  -- r3.5 t26 := buildSlice [23, 2] 0:t23 1:t25
  refine ol_step rfl (op_buildSlice (el := 42) (is := [0, 1]) (xs := [.tmp 23, .tmp 25]) (sz := 3) (cs := [.int .i64 0, .slice s22 1 1, .slice none 0 0, .int .i64 1, .slice none 0 0, .slice s24 1 1]) hS rfl rfl (fun w => by kernel_rfl) rfl (by decide)) ?_
  clear hS
  rintro _ w ⟨s26, rfl, hS⟩
  obtain ⟨Gr3, hlGr3, hS2, hR3⟩ := SS.give' rs3 [] ERule.mono hS (by decide) (by exact (((Rows.nil (sz := 3) (E := ERule) _).snoc (x := ⟨0, [0], []⟩) (cs := [.int .i64 0, .slice s22 1 1, .slice none 0 0]) rfl ⟨_, _, rfl, hs22, .nil _, by decide, by decide⟩).snoc (x := ⟨1, [], [0]⟩) (cs := [.int .i64 1, .slice none 0 0, .slice s24 1 1]) rfl ⟨_, _, rfl, .nil _, hs24, by decide, by decide⟩)) rfl
  clear hS
  have hS := hS2
  clear hS2
  (try simp only [List.nil_append, List.cons_append] at hS)
  replace hA1 := hA1.mono ETriv.mono hlGr3
  replace hR1 := hR1.mono ERule.mono hlGr3
  replace hA2 := hA2.mono ETriv.mono hlGr3
  replace hR2 := hR2.mono ERule.mono hlGr3
  replace hA3 := hA3.mono ETriv.mono hlGr3
  replace hs22 := hs22.mono EInt.mono hlGr3
  replace hs24 := hs24.mono EInt.mono hlGr3
  -- r3.6 t27 := build [25] 0:t21 1:t26
  refine ol_pure rfl (op_build (is := [0, 1]) (xs := [.tmp 21, .tmp 26]) (v := .agg #[.slice oA3 2 cA3, .slice s26 2 2]) rfl rfl (fun w => by kernel_rfl)) ?_
  -- r3.7 t3 := alloc [25] 
  refine ol_step rfl (op_alloc hS el_25 rfl) ?_
  clear hS
  rintro _ w ⟨b3, rfl, hS⟩
  -- r3.8 _ := store [25] t3 t27
  refine ol_step0  (op_storeN (j := 0) hS sz_25 rfl rfl rfl rfl rfl (by simp [Value.oneCell'])) ?_
  clear hS
  rintro _ w hS; (try simp only [List.nil_append, List.cons_append, List.set] at hS)
  refine ol_nil ?_
  refine pq_then ?_
  refine cw_seq ?_
  refine cw_region ?_
  -- r4.0 t28 := call f30 C1
  refine ol_step rfl (op_call_fr hS cf_30 rfl (L17_atoms_c _ _ hS.hold 1 (by decide))) ?_
  clear hS
  rintro v28 w ⟨F28, Ga4, hR28, hF28, hf28, hl28, hS⟩
  obtain ⟨oA4, cA4, rfl, _, _⟩ := hR28.elimN (by simp : (List.replicate 1 ()).length = 1)
  have hA4 := hR28.mono ETriv.mono hf28
  clear hR28
  replace hA1 := hA1.mono ETriv.mono hl28
  replace hR1 := hR1.mono ERule.mono hl28
  replace hA2 := hA2.mono ETriv.mono hl28
  replace hR2 := hR2.mono ERule.mono hl28
  replace hA3 := hA3.mono ETriv.mono hl28
  replace hR3 := hR3.mono ERule.mono hl28
  -- r4.1 t29 := buildSlice [27, 1] 0:C0
  refine ol_step rfl (op_buildSlice (el := 3) (is := [0]) (xs := [.const (.int .i64 (0))]) (sz := 1) (cs := [.int .i64 (0)]) hS rfl rfl (fun w => by kernel_rfl) rfl (by decide)) ?_
  clear hS
  rintro _ w ⟨s29, rfl, hS⟩
  obtain ⟨Gs29, hlGs29, hS2, hs29⟩ := SS.give' [0] [] EInt.mono hS (by decide) (oneInt _ _ (by decide)) rfl
  clear hS
  have hS := hS2
  clear hS2
  (try simp only [List.nil_append, List.cons_append] at hS)
  replace hA1 := hA1.mono ETriv.mono hlGs29
  replace hR1 := hR1.mono ERule.mono hlGs29
  replace hA2 := hA2.mono ETriv.mono hlGs29
  replace hR2 := hR2.mono ERule.mono hlGs29
  replace hA3 := hA3.mono ETriv.mono hlGs29
  replace hR3 := hR3.mono ERule.mono hlGs29
  replace hA4 := hA4.mono ETriv.mono hlGs29
  -- r4.2 t30 := build [42] 0:C0 2:t29
  refine ol_pure rfl (op_build (is := [0, 2]) (xs := [.const (.int .i64 (0)), .tmp 29]) (v := .agg #[.int .i64 0, .slice none 0 0, .slice s29 1 1]) rfl rfl (fun w => by kernel_rfl)) ?_
  -- r4.3 t31 := buildSlice [23, 1] 0:t30
  refine ol_step rfl (op_buildSlice (el := 42) (is := [0]) (xs := [.tmp 30]) (sz := 3) (cs := [.int .i64 0, .slice none 0 0, .slice s29 1 1]) hS rfl rfl (fun w => by kernel_rfl) rfl (by decide)) ?_
  clear hS
  rintro _ w ⟨s31, rfl, hS⟩
  obtain ⟨Gr4, hlGr4, hS2, hR4⟩ := SS.give' rs4 [] ERule.mono hS (by decide) (by exact ((Rows.nil (sz := 3) (E := ERule) _).snoc (x := ⟨0, [], [0]⟩) (cs := [.int .i64 0, .slice none 0 0, .slice s29 1 1]) rfl ⟨_, _, rfl, .nil _, hs29, by decide, by decide⟩)) rfl
  clear hS
  have hS := hS2
  clear hS2
  (try simp only [List.nil_append, List.cons_append] at hS)
  replace hA1 := hA1.mono ETriv.mono hlGr4
  replace hR1 := hR1.mono ERule.mono hlGr4
  replace hA2 := hA2.mono ETriv.mono hlGr4
  replace hR2 := hR2.mono ERule.mono hlGr4
  replace hA3 := hA3.mono ETriv.mono hlGr4
  replace hR3 := hR3.mono ERule.mono hlGr4
  replace hA4 := hA4.mono ETriv.mono hlGr4
  replace hs29 := hs29.mono EInt.mono hlGr4
  -- r4.4 t32 := build [25] 0:t28 1:t31
  refine ol_pure rfl (op_build (is := [0, 1]) (xs := [.tmp 28, .tmp 31]) (v := .agg #[.slice oA4 1 cA4, .slice s31 1 1]) rfl rfl (fun w => by kernel_rfl)) ?_
  -- r4.5 t4 := alloc [25] 
  refine ol_step rfl (op_alloc hS el_25 rfl) ?_
  clear hS
  rintro _ w ⟨b4, rfl, hS⟩
  -- r4.6 _ := store [25] t4 t32
  refine ol_step0  (op_storeN (j := 0) hS sz_25 rfl rfl rfl rfl rfl (by simp [Value.oneCell'])) ?_
  clear hS
  rintro _ w hS; (try simp only [List.nil_append, List.cons_append, List.set] at hS)
  refine ol_nil ?_
  refine pq_then ?_
  refine cw_seq ?_
  have hle := Le.refl Gr4
  refine cw_region ?_
  -- r5.0 t33 := load [25] t1
  refine ol_load rfl (op_loadN agg_25 rfl (by rfl) (fun w hw k u hk => (hw.bcell (i := 3) rfl).trans hk)) hS ?_
  -- r5.1 t34 := call f18 t33
  refine ol_step rfl (op_call_fr hS cf_18 rfl (wfm_Model_c _ _ hS.hold ETriv.mono _ _ (List.replicate 2 ()) rs1 (hA1.mono ETriv.mono hle) (hR1.mono ERule.mono hle) ok1)) ?_
  clear hS
  rintro v34 w ⟨F34, G34, hR34, hF34, hf34, hl34, hS⟩
  replace hle := hle.trans hl34
  -- r5.2 t35 := buildSlice [27, 2] 0:C2 1:C0
  refine ol_step rfl (op_buildSlice (el := 3) (is := [0, 1]) (xs := [.const (.int .i64 (2)), .const (.int .i64 (0))]) (sz := 1) (cs := [.int .i64 (2), .int .i64 (0)]) hS rfl rfl (fun w => by kernel_rfl) rfl (by decide)) ?_
  clear hS
  rintro _ w ⟨s35, rfl, hS⟩
  -- r5.3 t36 := call f17 t34 t35
  have hlend := SS.lend [] hS (by decide) EInt.mono (Rows.of_map (xs := [2, 0]) (f := Value.int .i64) (E := EInt) (fun x hx => ⟨rfl, by simp at hx; omega⟩)) rfl
  refine ol_step rfl (op_call_sc hS cf_17 rfl (calls_t (by decide : decide (modelI 2 rs1 = [2, 0]) = true) (R17_Ints_c (fullG _) _ (Holds.full _) _ _ (modelI 2 rs1) [2, 0] ((hR34.mono EInt.mono hf34).mono EInt.mono hS.hold.le_full) hlend))) ?_
  clear hS
  rintro _ w ⟨rfl, hS⟩
  -- r5.4 t37 := move  t36
  refine ol_pure rfl (op_move rfl) ?_
  -- r5.5 t38 := load [25] t2 ?4=True
  refine ol_guard_load rfl rfl rfl (op_loadN agg_25 rfl (by rfl) (fun w hw k u hk => (hw.bcell (i := 3) rfl).trans hk)) hS ?_
  -- r5.6 t39 := call f18 t38 ?4=True
  refine ol_guard_step rfl rfl rfl (op_call_fr hS cf_18 rfl (wfm_Model_c _ _ hS.hold ETriv.mono _ _ (List.replicate 3 ()) rs2 (hA2.mono ETriv.mono hle) (hR2.mono ERule.mono hle) ok2)) ?_
  clear hS
  rintro v39 w ⟨F39, G39, hR39, hF39, hf39, hl39, hS⟩
  replace hle := hle.trans hl39
  -- r5.7 t40 := buildSlice [27, 3] 0:C1 1:C1 2:C1 ?4=True
  refine ol_guard_step rfl rfl rfl (op_buildSlice (el := 3) (is := [0, 1, 2]) (xs := [.const (.int .i64 (1)), .const (.int .i64 (1)), .const (.int .i64 (1))]) (sz := 1) (cs := [.int .i64 (1), .int .i64 (1), .int .i64 (1)]) hS rfl rfl (fun w => by kernel_rfl) rfl (by decide)) ?_
  clear hS
  rintro _ w ⟨s40, rfl, hS⟩
  -- r5.8 t41 := call f17 t39 t40 ?4=True
  have hlend := SS.lend [] hS (by decide) EInt.mono (Rows.of_map (xs := [1, 1, 1]) (f := Value.int .i64) (E := EInt) (fun x hx => ⟨rfl, by simp at hx; omega⟩)) rfl
  refine ol_guard_step rfl rfl rfl (op_call_sc hS cf_17 rfl (calls_t (by decide : decide (modelI 3 rs2 = [1, 1, 1]) = true) (R17_Ints_c (fullG _) _ (Holds.full _) _ _ (modelI 3 rs2) [1, 1, 1] ((hR39.mono EInt.mono hf39).mono EInt.mono hS.hold.le_full) hlend))) ?_
  clear hS
  rintro _ w ⟨rfl, hS⟩
  -- r5.9 t42 := pick  t37 t41 Cfalse
  refine ol_pure rfl (op_pick_t rfl rfl) ?_
  -- r5.10 t43 := move  t42
  refine ol_pure rfl (op_move rfl) ?_
  -- r5.11 t44 := load [25] t3 ?10=True
  refine ol_guard_load rfl rfl rfl (op_loadN agg_25 rfl (by rfl) (fun w hw k u hk => (hw.bcell (i := 3) rfl).trans hk)) hS ?_
  -- r5.12 t45 := call f18 t44 ?10=True
  refine ol_guard_step rfl rfl rfl (op_call_fr hS cf_18 rfl (wfm_Model_c _ _ hS.hold ETriv.mono _ _ (List.replicate 2 ()) rs3 (hA3.mono ETriv.mono hle) (hR3.mono ERule.mono hle) ok3)) ?_
  clear hS
  rintro v45 w ⟨F45, G45, hR45, hF45, hf45, hl45, hS⟩
  replace hle := hle.trans hl45
  -- r5.13 t46 := buildSlice [27, 2] 0:C0 1:C2 ?10=True
  refine ol_guard_step rfl rfl rfl (op_buildSlice (el := 3) (is := [0, 1]) (xs := [.const (.int .i64 (0)), .const (.int .i64 (2))]) (sz := 1) (cs := [.int .i64 (0), .int .i64 (2)]) hS rfl rfl (fun w => by kernel_rfl) rfl (by decide)) ?_
  clear hS
  rintro _ w ⟨s46, rfl, hS⟩
  -- r5.14 t47 := call f17 t45 t46 ?10=True
  have hlend := SS.lend [] hS (by decide) EInt.mono (Rows.of_map (xs := [0, 2]) (f := Value.int .i64) (E := EInt) (fun x hx => ⟨rfl, by simp at hx; omega⟩)) rfl
  refine ol_guard_step rfl rfl rfl (op_call_sc hS cf_17 rfl (calls_t (by decide : decide (modelI 2 rs3 = [0, 2]) = true) (R17_Ints_c (fullG _) _ (Holds.full _) _ _ (modelI 2 rs3) [0, 2] ((hR45.mono EInt.mono hf45).mono EInt.mono hS.hold.le_full) hlend))) ?_
  clear hS
  rintro _ w ⟨rfl, hS⟩
  -- r5.15 t48 := pick  t43 t47 Cfalse
  refine ol_pure rfl (op_pick_t rfl rfl) ?_
  -- r5.16 t49 := move  t48
  refine ol_pure rfl (op_move rfl) ?_
  -- r5.17 t50 := load [25] t4 ?16=True
  refine ol_guard_load rfl rfl rfl (op_loadN agg_25 rfl (by rfl) (fun w hw k u hk => (hw.bcell (i := 3) rfl).trans hk)) hS ?_
  -- r5.18 t51 := call f18 t50 ?16=True
  refine ol_guard_step rfl rfl rfl (op_call_fr hS cf_18 rfl (wfm_Model_c _ _ hS.hold ETriv.mono _ _ (List.replicate 1 ()) rs4 (hA4.mono ETriv.mono hle) (hR4.mono ERule.mono hle) ok4)) ?_
  clear hS
  rintro v51 w ⟨F51, G51, hR51, hF51, hf51, hl51, hS⟩
  replace hle := hle.trans hl51
  -- r5.19 t52 := buildSlice [27, 1] 0:C1 ?16=True
  refine ol_guard_step rfl rfl rfl (op_buildSlice (el := 3) (is := [0]) (xs := [.const (.int .i64 (1))]) (sz := 1) (cs := [.int .i64 (1)]) hS rfl rfl (fun w => by kernel_rfl) rfl (by decide)) ?_
  clear hS
  rintro _ w ⟨s52, rfl, hS⟩
  -- r5.20 t53 := call f17 t51 t52 ?16=True
  have hlend := SS.lend [] hS (by decide) EInt.mono (Rows.of_map (xs := [1]) (f := Value.int .i64) (E := EInt) (fun x hx => ⟨rfl, by simp at hx; omega⟩)) rfl
  refine ol_guard_step rfl rfl rfl (op_call_sc hS cf_17 rfl (calls_t (by decide : decide (modelI 1 rs4 = [1]) = true) (R17_Ints_c (fullG _) _ (Holds.full _) _ _ (modelI 1 rs4) [1] ((hR51.mono EInt.mono hf51).mono EInt.mono hS.hold.le_full) hlend))) ?_
  clear hS
  rintro _ w ⟨rfl, hS⟩
  -- r5.21 t54 := pick  t49 t53 Cfalse
  refine ol_pure rfl (op_pick_t rfl rfl) ?_
  -- r5.22 t55 := move  t54
  refine ol_pure rfl (op_move rfl) ?_
  -- r5.23 t56 := load [25] t2 ?22=True
  refine ol_guard_load rfl rfl rfl (op_loadN agg_25 rfl (by rfl) (fun w hw k u hk => (hw.bcell (i := 6) rfl).trans hk)) hS ?_
  -- r5.24 t57 := buildSlice [26, 1] 0:Ctrue ?22=True
  refine ol_guard_step rfl rfl rfl (op_buildSlice (el := 4) (is := [0]) (xs := [.const (.bool true)]) (sz := 1) (cs := [.bool true]) hS rfl rfl (fun w => by kernel_rfl) rfl (by decide)) ?_
  clear hS
  rintro _ w ⟨s57, rfl, hS⟩
  -- r5.25 t58 := call f15 t56 t57 ?22=True
  have hlenA := SS.lend [] hS (by decide) EBool.mono (Rows.boolsG _ [true]) rfl
  refine ol_guard_step rfl rfl rfl (op_call_fr hS cf_15 rfl (wfm_Least_c (fullG _) _ (Holds.full _) ETriv.mono _ _ (List.replicate 3 ()) rs2 (hA2.mono ETriv.mono (hle.trans hS.hold.le_full)) (hR2.mono ERule.mono (hle.trans hS.hold.le_full)) ok2 _ [true] hlenA)) ?_
  clear hS
  rintro v58 w ⟨F58, G58, hR58, hF58, hf58, hl58, hS⟩
  replace hle := hle.trans hl58
  -- r5.26 t59 := buildSlice [26, 3] 0:Ctrue 1:Cfalse 2:Ctrue ?22=True
  refine ol_guard_step rfl rfl rfl (op_buildSlice (el := 4) (is := [0, 1, 2]) (xs := [.const (.bool true), .const (.bool false), .const (.bool true)]) (sz := 1) (cs := [.bool true, .bool false, .bool true]) hS rfl rfl (fun w => by kernel_rfl) rfl (by decide)) ?_
  clear hS
  rintro _ w ⟨s59, rfl, hS⟩
  -- r5.27 t60 := call f14 t58 t59 ?22=True
  have hlend := SS.lend [] hS (by decide) EBool.mono (Rows.boolsG _ [true, false, true]) rfl
  refine ol_guard_step rfl rfl rfl (op_call_sc hS cf_14 rfl (calls_t (by decide : decide (gam 3 rs2 [true] = [true, false, true]) = true) (R17_Bools_c (fullG _) _ (Holds.full _) _ _ (gam 3 rs2 [true]) [true, false, true] ((hR58.mono EBool.mono hf58).mono EBool.mono hS.hold.le_full) hlend))) ?_
  clear hS
  rintro _ w ⟨rfl, hS⟩
  -- r5.28 t61 := pick  t55 t60 Cfalse
  refine ol_pure rfl (op_pick_t rfl rfl) ?_
  -- r5.29 t62 := move  t61
  refine ol_pure rfl (op_move rfl) ?_
  -- r5.30 t63 := load [25] t2 ?29=True
  refine ol_guard_load rfl rfl rfl (op_loadN agg_25 rfl (by rfl) (fun w hw k u hk => (hw.bcell (i := 8) rfl).trans hk)) hS ?_
  -- r5.31 t64 := call f15 t63 C(slice (none Addr) 0 0) ?29=True
  refine ol_guard_step rfl rfl rfl (op_call_fr hS cf_15 rfl (wfm_Least_c _ _ hS.hold ETriv.mono _ _ (List.replicate 3 ()) rs2 (hA2.mono ETriv.mono hle) (hR2.mono ERule.mono hle) ok2 _ [] (.nil _))) ?_
  clear hS
  rintro v64 w ⟨F64, G64, hR64, hF64, hf64, hl64, hS⟩
  replace hle := hle.trans hl64
  -- r5.32 t65 := buildSlice [26, 3] 0:Ctrue 1:Ctrue 2:Ctrue ?29=True
  refine ol_guard_step rfl rfl rfl (op_buildSlice (el := 4) (is := [0, 1, 2]) (xs := [.const (.bool true), .const (.bool true), .const (.bool true)]) (sz := 1) (cs := [.bool true, .bool true, .bool true]) hS rfl rfl (fun w => by kernel_rfl) rfl (by decide)) ?_
  clear hS
  rintro _ w ⟨s65, rfl, hS⟩
  -- r5.33 t66 := call f14 t64 t65 ?29=True
  have hlend := SS.lend [] hS (by decide) EBool.mono (Rows.boolsG _ [true, true, true]) rfl
  refine ol_guard_step rfl rfl rfl (op_call_sc hS cf_14 rfl (calls_t (by decide : decide (gam 3 rs2 [] = [true, true, true]) = true) (R17_Bools_c (fullG _) _ (Holds.full _) _ _ (gam 3 rs2 []) [true, true, true] ((hR64.mono EBool.mono hf64).mono EBool.mono hS.hold.le_full) hlend))) ?_
  clear hS
  rintro _ w ⟨rfl, hS⟩
  -- r5.34 t67 := pick  t62 t66 Cfalse
  refine ol_pure rfl (op_pick_t rfl rfl) ?_
  -- r5.35 t68 := move  t67
  refine ol_pure rfl (op_move rfl) ?_
  -- r5.36 t69 := load [25] t3 ?35=True
  refine ol_guard_load rfl rfl rfl (op_loadN agg_25 rfl (by rfl) (fun w hw k u hk => (hw.bcell (i := 8) rfl).trans hk)) hS ?_
  -- r5.37 t70 := call f20 t69 C(slice (none Addr) 0 0) ?35=True
  refine ol_guard_step rfl rfl rfl (op_call_fr hS cf_20 rfl (wfm_Unfounded_c _ _ hS.hold ETriv.mono _ _ (List.replicate 2 ()) rs3 (hA3.mono ETriv.mono hle) (hR3.mono ERule.mono hle) ok3 _ [] (.nil _))) ?_
  clear hS
  rintro v70 w ⟨F70, G70, hR70, hF70, hf70, hl70, hS⟩
  replace hle := hle.trans hl70
  -- r5.38 t71 := buildSlice [27, 1] 0:C0 ?35=True
  refine ol_guard_step rfl rfl rfl (op_buildSlice (el := 3) (is := [0]) (xs := [.const (.int .i64 (0))]) (sz := 1) (cs := [.int .i64 (0)]) hS rfl rfl (fun w => by kernel_rfl) rfl (by decide)) ?_
  clear hS
  rintro _ w ⟨s71, rfl, hS⟩
  -- r5.39 t72 := call f17 t70 t71 ?35=True
  have hlend := SS.lend [] hS (by decide) EInt.mono (Rows.of_map (xs := [0]) (f := Value.int .i64) (E := EInt) (fun x hx => ⟨rfl, by simp at hx; omega⟩)) rfl
  refine ol_guard_step rfl rfl rfl (op_call_sc hS cf_17 rfl (calls_t (by decide : decide (unfI 2 rs3 [] = [0]) = true) (R17_Ints_c (fullG _) _ (Holds.full _) _ _ (unfI 2 rs3 []) [0] ((hR70.mono EInt.mono hf70).mono EInt.mono hS.hold.le_full) hlend))) ?_
  clear hS
  rintro _ w ⟨rfl, hS⟩
  -- r5.40 t73 := pick  t68 t72 Cfalse
  refine ol_pure rfl (op_pick_t rfl rfl) ?_
  -- r5.41 t74 := move  t73
  refine ol_pure rfl (op_move rfl) ?_
  -- r5.42 t75 := load [25] t1 ?41=True
  refine ol_guard_load rfl rfl rfl (op_loadN agg_25 rfl (by rfl) (fun w hw k u hk => (hw.bcell (i := 11) rfl).trans hk)) hS ?_
  -- r5.43 t76 := call f20 t75 C(slice (none Addr) 0 0) ?41=True
  refine ol_guard_step rfl rfl rfl (op_call_fr hS cf_20 rfl (wfm_Unfounded_c _ _ hS.hold ETriv.mono _ _ (List.replicate 2 ()) rs1 (hA1.mono ETriv.mono hle) (hR1.mono ERule.mono hle) ok1 _ [] (.nil _))) ?_
  clear hS
  rintro v76 w ⟨F76, G76, hR76, hF76, hf76, hl76, hS⟩
  replace hle := hle.trans hl76
  -- r5.44 t77 := buildSlice [27, 1] 0:C1 ?41=True
  refine ol_guard_step rfl rfl rfl (op_buildSlice (el := 3) (is := [0]) (xs := [.const (.int .i64 (1))]) (sz := 1) (cs := [.int .i64 (1)]) hS rfl rfl (fun w => by kernel_rfl) rfl (by decide)) ?_
  clear hS
  rintro _ w ⟨s77, rfl, hS⟩
  -- r5.45 t78 := call f17 t76 t77 ?41=True
  have hlend := SS.lend [] hS (by decide) EInt.mono (Rows.of_map (xs := [1]) (f := Value.int .i64) (E := EInt) (fun x hx => ⟨rfl, by simp at hx; omega⟩)) rfl
  refine ol_guard_step rfl rfl rfl (op_call_sc hS cf_17 rfl (calls_t (by decide : decide (unfI 2 rs1 [] = [1]) = true) (R17_Ints_c (fullG _) _ (Holds.full _) _ _ (unfI 2 rs1 []) [1] ((hR76.mono EInt.mono hf76).mono EInt.mono hS.hold.le_full) hlend))) ?_
  clear hS
  rintro _ w ⟨rfl, hS⟩
  -- r5.46 t79 := pick  t74 t78 Cfalse
  refine ol_pure rfl (op_pick_t rfl rfl) ?_
  -- r5.47 t80 := move  t79
  refine ol_pure rfl (op_move rfl) ?_
  -- r5.48 t81 := load [25] t1 ?47=True
  refine ol_guard_load rfl rfl rfl (op_loadN agg_25 rfl (by rfl) (fun w hw k u hk => (hw.bcell (i := 12) rfl).trans hk)) hS ?_
  -- r5.49 t82 := buildSlice [27, 2] 0:C1 1:C2 ?47=True
  refine ol_guard_step rfl rfl rfl (op_buildSlice (el := 3) (is := [0, 1]) (xs := [.const (.int .i64 (1)), .const (.int .i64 (2))]) (sz := 1) (cs := [.int .i64 (1), .int .i64 (2)]) hS rfl rfl (fun w => by kernel_rfl) rfl (by decide)) ?_
  clear hS
  rintro _ w ⟨s82, rfl, hS⟩
  -- r5.50 t83 := call f20 t81 t82 ?47=True
  have hlenA := SS.lend [] hS (by decide) EInt.mono (Rows.of_map (xs := [1, 2]) (f := Value.int .i64) (E := EInt) (fun x hx => ⟨rfl, by simp at hx; omega⟩)) rfl
  refine ol_guard_step rfl rfl rfl (op_call_fr hS cf_20 rfl (wfm_Unfounded_c (fullG _) _ (Holds.full _) ETriv.mono _ _ (List.replicate 2 ()) rs1 (hA1.mono ETriv.mono (hle.trans hS.hold.le_full)) (hR1.mono ERule.mono (hle.trans hS.hold.le_full)) ok1 _ [1, 2] hlenA)) ?_
  clear hS
  rintro v83 w ⟨F83, G83, hR83, hF83, hf83, hl83, hS⟩
  replace hle := hle.trans hl83
  -- r5.51 t84 := buildSlice [27, 2] 0:C0 1:C1 ?47=True
  refine ol_guard_step rfl rfl rfl (op_buildSlice (el := 3) (is := [0, 1]) (xs := [.const (.int .i64 (0)), .const (.int .i64 (1))]) (sz := 1) (cs := [.int .i64 (0), .int .i64 (1)]) hS rfl rfl (fun w => by kernel_rfl) rfl (by decide)) ?_
  clear hS
  rintro _ w ⟨s84, rfl, hS⟩
  -- r5.52 t85 := call f17 t83 t84 ?47=True
  have hlend := SS.lend [] hS (by decide) EInt.mono (Rows.of_map (xs := [0, 1]) (f := Value.int .i64) (E := EInt) (fun x hx => ⟨rfl, by simp at hx; omega⟩)) rfl
  refine ol_guard_step rfl rfl rfl (op_call_sc hS cf_17 rfl (calls_t (by decide : decide (unfI 2 rs1 [1, 2] = [0, 1]) = true) (R17_Ints_c (fullG _) _ (Holds.full _) _ _ (unfI 2 rs1 [1, 2]) [0, 1] ((hR83.mono EInt.mono hf83).mono EInt.mono hS.hold.le_full) hlend))) ?_
  clear hS
  rintro _ w ⟨rfl, hS⟩
  -- r5.53 t86 := pick  t80 t85 Cfalse
  refine ol_pure rfl (op_pick_t rfl rfl) ?_
  -- r5.54 t87 := move  t86
  refine ol_pure rfl (op_move rfl) ?_
  -- r5.55 t88 := build [25]  ?54=True
  refine ol_guard_pure rfl rfl rfl (op_build (is := []) (xs := []) (v := .agg #[.slice none 0 0, .slice none 0 0]) rfl rfl (fun w => by kernel_rfl)) ?_
  -- r5.56 t89 := call f18 t88 ?54=True
  refine ol_guard_step rfl rfl rfl (op_call_fr hS cf_18 rfl (wfm_Model_c _ _ hS.hold ETriv.mono _ _ [] [] (.nil _) (.nil _) ⟨by decide, by decide, by simp⟩)) ?_
  clear hS
  rintro v89 w ⟨F89, G89, hR89, hF89, hf89, hl89, hS⟩
  obtain ⟨oZ, cZ, rfl, _, _⟩ := hR89.elimN (modelI_len _ _)
  -- r5.57 t90 := call len t89 ?54=True
  refine ol_guard_pure rfl rfl rfl (op_len sl_27 rfl rfl) ?_
  -- r5.58 t91 := eql t90 C0 ?54=True
  refine ol_guard_pure rfl rfl rfl (op_eql rfl rfl) ?_
  -- r5.59 t92 := pick  t87 t91 Cfalse
  refine ol_pure rfl (op_pick_t rfl rfl) ?_
  -- r5.60 t0 := assign  t92
  refine ol_pure rfl (op_assign rfl) ?_
  refine ol_nil ?_
  refine pq_then ?_
  refine cw_ret ?_
  refine ret1 rfl rfl ?_
  -- ret1 
  exact hS.sc_b rfl
end Go.Proofs.Ytegjmfcfjedfjaa.K
