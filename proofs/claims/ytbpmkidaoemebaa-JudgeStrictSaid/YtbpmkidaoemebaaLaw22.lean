/-
  The law package of layer 22: three atoms and more, calls whose answers the document fixes.
  No condition but the premises that each theorem names.
-/
import Derived.Test.YtbpmkidaoemebaaCourt4
import Derived.Test.YtbpmkidaoemebaaRight
namespace Go.Proofs.Ytbpmkidaoemebaa.K
open Go Go.RowKit
set_option linter.unusedVariables false
set_option linter.unusedSimpArgs false

open Pl
theorem SS.give' {G0 G : GH} {w0 w : World} {M : List Ent} {α : Type} {E : ER α} (zs : List α) (pre : List Ent) {oa : Option Addr} {n c : Nat} {T : TypeId} {sz : Nat} {xs : List Value} (hE : EMono E) (h : SS G0 w0 G (pre ++ .row oa n c T sz xs :: M) w) (hsz : 0 < sz) (hr : Rows sz E G xs zs) (hn : n = zs.length) :
    ∃ G', Le G G' ∧ SS G0 w0 G' (pre ++ M) w ∧ RSl sz E G' (.slice oa n c) zs := h.give pre hsz hE hr hn
theorem op_sliceS {P : Program} {N : Nat} {e : Env} {d : Option Tmp} {ty : TypeId} {pos : String} {after : Array Edge} {g : Option (Nat × Bool)} {t : TypeId} {x lo hi_ : Operand} {s : ByteArray} {k k' : IntKind} {l h : Nat} (ht : TStr P t) (hx : ev e x = some (.string s)) (hl : ev e lo = some (.int k l)) (hh : ev e hi_ = some (.int k' h)) (h1 : l ≤ h) (h2 : h ≤ s.size) : OpP P N e ⟨d, .slice t x (some lo) (some hi_) none, ty, pos, after, g⟩ (.string (s.extract l h)) := fun a ha w => by
  have hu : P.underlying t = some .string := ht
  simp [execOp, Instr.sliceAt, Instr.slice, Instr.sliceBounds, Instr.sliceBound, asIntOf, ha.ev hx, ha.ev hl, ha.ev hh, run_underlying hu, h1, h2]
def rsT : List Rule := [⟨0, [], []⟩, ⟨1, [], [0]⟩, ⟨2, [], [2]⟩, ⟨3, [3], []⟩]
theorem okT : PrOk (List.replicate 4 ()).length rsT := ⟨by decide, by decide, by simp [rsT, RuleOk]⟩
theorem okE : PrOk ([] : List Unit).length [] := ⟨by decide, by decide, by simp⟩
theorem oneInt (G : GH) (x : Int) (h : -9223372036854775808 ≤ x ∧ x ≤ 9223372036854775807) : Rows 1 EInt G [.int .i64 x] [x] := Rows.of_map (xs := [x]) (f := Value.int .i64) (fun y hy => by
  have : y = x := by simpa using hy
  subst this
  exact ⟨rfl, h⟩)
theorem twoInt (G : GH) (x y : Int) (h : -9223372036854775808 ≤ x ∧ x ≤ 9223372036854775807) (h' : -9223372036854775808 ≤ y ∧ y ≤ 9223372036854775807) : Rows 1 EInt G [.int .i64 x, .int .i64 y] [x, y] := (oneInt G x h).snoc (cs := [.int .i64 y]) rfl ⟨rfl, h'⟩
theorem ck1 : checkI rsT 4 [⟨0, [0]⟩, ⟨-1, [1, 3]⟩] [2] = some [2, 0, 1, 0] := by decide
theorem ck2 : checkI rsT 4 [⟨0, [0]⟩, ⟨-1, [1, 3]⟩] [] = none := by decide
theorem ck3 : checkI rsT 4 [⟨0, [0]⟩] [2] = none := by decide
theorem ck4 : checkI rsT 4 [⟨-1, [1, 3]⟩] [2] = none := by decide
theorem ck5 : partly rsT (startI 4) [⟨-1, [3]⟩, ⟨1, [1]⟩] = ([1, 1, 1, 0], 1) := by decide
theorem ck6 : checkI [] 0 [] [] = some [] := by decide

set_option maxRecDepth 100000 in
set_option maxHeartbeats 400000 in

theorem L22_three_c (w0 : World) :
    Calls Try.prog 21 #[] w0 (Rt noG w0 (fun G v => ∃ va vr, v = .agg #[va, vr] ∧ RSl 1 ETriv G va (List.replicate 4 ()) ∧ RSl 3 ERule G vr rsT)) := by
  refine enter Try.func21 rfl (N := 26) rfl (Nat.le_of_ble_eq_true rfl) ?_
  have hS := SS.init (G := noG) (w := w0) (fun _ _ h => by cases h)
  refine cw_seq ?_
  refine cw_region ?_
  -- r0.0 t0 := alloc [25] 
  refine ol_step rfl (op_alloc hS el_25 rfl) ?_
  clear hS
  rintro _ w ⟨b0, rfl, hS⟩
  refine ol_nil ?_
  refine pq_then ?_
  refine cw_seq ?_
  refine cw_region ?_
  -- r1.0 t1 := assign  C(slice (none Addr) 0 0)
  refine ol_pure rfl (op_assign rfl) ?_
  refine ol_nil ?_
  refine pq_then ?_
  refine cw_seq ?_
  refine cw_seq ?_
  refine cw_region ?_
  -- r2.0 t2 := assign  C0
  refine ol_pure rfl (op_assign rfl) ?_
  refine ol_nil ?_
  refine pq_then ?_
  refine cw_block ?_
  replace hS := SS.ins [] hS 70 1
  refine cw_loop (fun e w n => ∃ k o1 c1 us, e = [(0, .pointer (some ⟨b0, 0, none⟩)), (1, .slice o1 k c1), (2, .int .i64 (k : Nat))] ∧ k ≤ 4 ∧ n = 4 - k ∧ SS noG w0 noG [.row o1 k c1 70 1 us, .blk b0 25 [.slice none 0 0, .slice none 0 0]] w) _ _ (by exact ⟨0, none, 0, [], rfl, Nat.zero_le _, rfl, hS⟩) ((Sub.cons rfl (Sub.cons rfl (Sub.cons rfl Sub.nil)))) ?_
  clear hS
  rintro e w n ⟨k, o1, c1, us, rfl, hk, rfl, hS⟩
  refine cw_seq ?_
  refine cw_seq ?_
  refine cw_region ?_
  -- r3.0 t3 := move  t2
  refine ol_pure rfl (op_move rfl) ?_
  -- r3.1 t4 := lss t3 C4
  refine ol_pure rfl (op_lss rfl rfl) ?_
  refine ol_nil ?_
  refine pq_then ?_
  refine cw_cond rfl (fun h4 => ?_) (fun h4 => ?_)
  · skip
    try simp only [decide_eq_true_eq, decide_eq_false_iff_not, Bool.not_eq_true', Bool.not_eq_false', Bool.not_eq_eq_eq_not, Bool.not_true, Bool.not_false] at h4
    have hlt : k < 4 := by omega
    refine cw_skip ?_
    refine pq_then ?_
    refine cw_seq ?_
    refine cw_block ?_
    refine cw_region ?_
    -- r5.0 t7 := move  t1
    refine ol_pure rfl (op_move rfl) ?_
    -- r5.1 t8 := move  t2
    refine ol_pure rfl (op_move rfl) ?_
    -- r5.2 t9 := move  t2
    refine ol_pure rfl (op_move rfl) ?_
    -- r5.3 t10 := add t9 C1
    refine ol_pure rfl (op_add rfl rfl (by omega) (by omega)) ?_
    -- r5.4 t11 := slice C(string (mk (toArray UInt8 (cons UInt8 97 (cons UInt8 98 (cons UInt8 99 (cons UInt8 100 (nil UInt8)))))))) [t8:t10:]
    refine ol_pure rfl (op_sliceS Try.underlying9 rfl rfl rfl (by omega) (show k + 1 ≤ 4 by omega)) ?_
    -- r5.5 t12 := build [69] 0:C3 1:t11
    refine ol_pure rfl (op_build (is := [0, 1]) (xs := [.const (.int .i64 (3)), .tmp 11]) (v := .agg #[.int .i64 3, .string (ByteArray.extract ⟨#[97, 98, 99, 100]⟩ k (k + 1)), .int .i64 0]) rfl rfl (fun w => by kernel_rfl)) ?_
    -- r5.6 t13 := buildSlice [70, 1] 0:t12
    refine ol_step rfl (op_buildSlice (el := 69) (is := [0]) (xs := [.tmp 12]) (sz := 3) (cs := [.int .i64 3, .string (ByteArray.extract ⟨#[97, 98, 99, 100]⟩ k (k + 1)), .int .i64 0]) hS rfl rfl (fun w => by kernel_rfl) rfl (by decide)) ?_
    clear hS
    rintro _ w ⟨s13, rfl, hS⟩
    -- r5.7 t14 := buildSlice [22, 1] 0:t13
    refine ol_step rfl (op_buildSlice (el := 70) (is := [0]) (xs := [.tmp 13]) (sz := 1) (cs := [.slice s13 1 1]) hS rfl rfl (fun w => by kernel_rfl) rfl (by decide)) ?_
    clear hS
    rintro _ w ⟨s14, rfl, hS⟩
    -- r5.8 t15 := call append t7 t14
    refine ol_step rfl (op_append (j := 2) hS sl_22 el_70 rfl rfl rfl rfl rfl rfl (by decide) (hS.news (j := 0) rfl) (by simp [Value.oneCell']) (by omega) (by unfold maxLen; omega)) ?_
    clear hS
    rintro _ w ⟨o1n, c_o1n, rfl, hS⟩; (try simp only [List.nil_append, List.cons_append, List.set] at hS); replace hS := SS.drop [] hS; (try simp only [List.nil_append, List.cons_append] at hS)
    -- r5.9 t1 := assign  t15
    refine ol_pure rfl (op_assign rfl) ?_
    refine ol_nil ?_
    refine pq_in_normal ?_
    refine pq_then ?_
    refine cw_region ?_
    -- r4.0 t5 := move  t2
    refine ol_pure rfl (op_move rfl) ?_
    -- r4.1 t6 := add t5 C1
    refine ol_pure rfl (op_add rfl rfl (by omega) (by omega)) ?_
    -- r4.2 t2 := assign  t6
    refine ol_pure rfl (op_assign rfl) ?_
    refine ol_nil ?_
    -- end of round 1 h4t
    refine pq_loop _ _ (by exact (by replace hS := SS.drop [] hS; exact ⟨k + 1, o1n, c_o1n, _, rfl, by omega, rfl, hS⟩)) ((Sub.cons rfl (Sub.cons rfl (Sub.cons rfl Sub.nil)))) (by omega)
  · skip
    try simp only [decide_eq_true_eq, decide_eq_false_iff_not, Bool.not_eq_true', Bool.not_eq_false', Bool.not_eq_eq_eq_not, Bool.not_true, Bool.not_false] at h4
    have hk4 : k = 4 := by omega
    subst hk4
    have hul := (hS.row_len []).1
    obtain ⟨GA, hlA, hS2, hA⟩ := SS.give' (List.replicate 4 ()) [] ETriv.mono hS (by decide) (by exact ⟨by rw [hul]; simp, fun _ _ _ => trivial⟩) rfl
    clear hS
    have hS := hS2
    clear hS2
    (try simp only [List.nil_append, List.cons_append] at hS)
    
    refine cw_exit ?_
    refine pq_exit ?_
    refine pq_exit ?_
    refine pq_in_exit ?_
    refine pq_then ?_
    refine cw_seq ?_
    refine cw_region ?_
    -- r6.0 t16 := move  t1
    refine ol_pure rfl (op_move rfl) ?_
    -- r6.1 t17 := build [48] 
    refine ol_pure rfl (op_build (is := []) (xs := []) (v := .agg #[.int .i64 0, .slice none 0 0, .slice none 0 0]) rfl rfl (fun w => by kernel_rfl)) ?_
    -- r6.2 t18 := buildSlice [29, 1] 0:C0
    refine ol_step rfl (op_buildSlice (el := 3) (is := [0]) (xs := [.const (.int .i64 (0))]) (sz := 1) (cs := [.int .i64 (0)]) hS rfl rfl (fun w => by kernel_rfl) rfl (by decide)) ?_
    clear hS
    rintro _ w ⟨s18, rfl, hS⟩
    obtain ⟨G18, hl18, hS2, h18⟩ := SS.give' [(0 : Int)] [] EInt.mono hS (by decide) (by exact oneInt _ _ (by decide)) rfl
    clear hS
    have hS := hS2
    clear hS2
    (try simp only [List.nil_append, List.cons_append] at hS)
    replace hA := hA.mono ETriv.mono hl18
    -- r6.3 t19 := build [48] 0:C1 2:t18
    refine ol_pure rfl (op_build (is := [0, 2]) (xs := [.const (.int .i64 (1)), .tmp 18]) (v := .agg #[.int .i64 1, .slice none 0 0, .slice s18 1 1]) rfl rfl (fun w => by kernel_rfl)) ?_
    -- r6.4 t20 := buildSlice [29, 1] 0:C2
    refine ol_step rfl (op_buildSlice (el := 3) (is := [0]) (xs := [.const (.int .i64 (2))]) (sz := 1) (cs := [.int .i64 (2)]) hS rfl rfl (fun w => by kernel_rfl) rfl (by decide)) ?_
    clear hS
    rintro _ w ⟨s20, rfl, hS⟩
    obtain ⟨G20, hl20, hS2, h20⟩ := SS.give' [(2 : Int)] [] EInt.mono hS (by decide) (by exact oneInt _ _ (by decide)) rfl
    clear hS
    have hS := hS2
    clear hS2
    (try simp only [List.nil_append, List.cons_append] at hS)
    replace hA := hA.mono ETriv.mono hl20
    replace h18 := h18.mono EInt.mono hl20
    -- r6.5 t21 := build [48] 0:C2 2:t20
    refine ol_pure rfl (op_build (is := [0, 2]) (xs := [.const (.int .i64 (2)), .tmp 20]) (v := .agg #[.int .i64 2, .slice none 0 0, .slice s20 1 1]) rfl rfl (fun w => by kernel_rfl)) ?_
    -- r6.6 t22 := buildSlice [29, 1] 0:C3
    refine ol_step rfl (op_buildSlice (el := 3) (is := [0]) (xs := [.const (.int .i64 (3))]) (sz := 1) (cs := [.int .i64 (3)]) hS rfl rfl (fun w => by kernel_rfl) rfl (by decide)) ?_
    clear hS
    rintro _ w ⟨s22, rfl, hS⟩
    obtain ⟨G22, hl22, hS2, h22⟩ := SS.give' [(3 : Int)] [] EInt.mono hS (by decide) (by exact oneInt _ _ (by decide)) rfl
    clear hS
    have hS := hS2
    clear hS2
    (try simp only [List.nil_append, List.cons_append] at hS)
    replace hA := hA.mono ETriv.mono hl22
    replace h18 := h18.mono EInt.mono hl22
    replace h20 := h20.mono EInt.mono hl22
    -- r6.7 t23 := build [48] 0:C3 1:t22
    refine ol_pure rfl (op_build (is := [0, 1]) (xs := [.const (.int .i64 (3)), .tmp 22]) (v := .agg #[.int .i64 3, .slice s22 1 1, .slice none 0 0]) rfl rfl (fun w => by kernel_rfl)) ?_
    -- r6.8 t24 := buildSlice [23, 4] 0:t17 1:t19 2:t21 3:t23
    refine ol_step rfl (op_buildSlice (el := 48) (is := [0, 1, 2, 3]) (xs := [.tmp 17, .tmp 19, .tmp 21, .tmp 23]) (sz := 3) (cs := [.int .i64 0, .slice none 0 0, .slice none 0 0, .int .i64 1, .slice none 0 0, .slice s18 1 1, .int .i64 2, .slice none 0 0, .slice s20 1 1, .int .i64 3, .slice s22 1 1, .slice none 0 0]) hS rfl rfl (fun w => by kernel_rfl) rfl (by decide)) ?_
    clear hS
    rintro _ w ⟨s24, rfl, hS⟩
    obtain ⟨G24, hl24, hS2, h24⟩ := SS.give' rsT [] ERule.mono hS (by decide) (by exact ((((Rows.nil (sz := 3) (E := ERule) _).snoc (x := ⟨0, [], []⟩) (cs := [.int .i64 0, .slice none 0 0, .slice none 0 0]) rfl ⟨_, _, rfl, .nil _, .nil _, by decide, by decide⟩).snoc (x := ⟨1, [], [0]⟩) (cs := [.int .i64 1, .slice none 0 0, .slice s18 1 1]) rfl ⟨_, _, rfl, .nil _, h18, by decide, by decide⟩).snoc (x := ⟨2, [], [2]⟩) (cs := [.int .i64 2, .slice none 0 0, .slice s20 1 1]) rfl ⟨_, _, rfl, .nil _, h20, by decide, by decide⟩).snoc (x := ⟨3, [3], []⟩) (cs := [.int .i64 3, .slice s22 1 1, .slice none 0 0]) rfl ⟨_, _, rfl, h22, .nil _, by decide, by decide⟩) rfl
    clear hS
    have hS := hS2
    clear hS2
    (try simp only [List.nil_append, List.cons_append] at hS)
    replace hA := hA.mono ETriv.mono hl24
    -- r6.9 t25 := build [25] 0:t16 1:t24
    refine ol_pure rfl (op_build (is := [0, 1]) (xs := [.tmp 16, .tmp 24]) (v := .agg #[.slice o1 4 c1, .slice s24 4 4]) rfl rfl (fun w => by kernel_rfl)) ?_
    -- r6.10 _ := store [25] t0 t25
    refine ol_step0  (op_storeN (j := 0) hS sz_25 rfl rfl rfl rfl rfl (by simp [Value.oneCell'])) ?_
    clear hS
    rintro _ w hS; (try simp only [List.nil_append, List.cons_append, List.set] at hS)
    refine ol_nil ?_
    refine pq_then ?_
    refine cw_ret ?_
    refine retN rfl agg_25 rfl (by rfl) (fun k u hk => (hS.bcell (i := 0) rfl).trans hk) ?_
    -- ret1 h4f
    exact ⟨_, _, rfl, hS.below, hS.hold, fun b hb => .inl (hS.old b hb), _, _, rfl, hA, h24⟩
set_option maxRecDepth 100000 in
set_option maxHeartbeats 2000000 in

theorem L22_head_c (G : GH) (w0 : World) (hG : Holds G w0)  :
    Calls Try.prog 11 #[] w0 (Sc w0 (.bool true)) := by
  refine enter Try.func11 rfl (N := 108) rfl (Nat.le_of_ble_eq_true rfl) ?_
  have hS := SS.init hG
  refine cw_seq ?_
  refine cw_region ?_
  -- r0.0 t0 := assign  Cfalse
  refine ol_pure rfl (op_assign rfl) ?_
  refine ol_nil ?_
  refine pq_then ?_
  refine cw_seq ?_
  refine cw_region ?_
  -- r1.0 t15 := call f21 
  refine ol_step rfl (op_call_fr hS cf_21 rfl (L22_three_c _)) ?_
  clear hS
  rintro v15 w ⟨F15, G15, hR15, hF15, hf15, hl15, hS⟩
  obtain ⟨vA, vR, rfl, hA, hR⟩ := hR15
  replace hA := hA.mono ETriv.mono hf15
  replace hR := hR.mono ERule.mono hf15
  obtain ⟨oA, cA, rfl, _, _⟩ := hA.elim
  obtain ⟨oR, cR, rfl, _, _⟩ := hR.elim
  -- r1.1 t1 := alloc [25] 
  refine ol_step rfl (op_alloc hS el_25 rfl) ?_
  clear hS
  rintro _ w ⟨b1, rfl, hS⟩
  -- r1.2 _ := store [25] t1 t15
  refine ol_step0  (op_storeN (j := 0) hS sz_25 rfl rfl rfl rfl rfl (by simp [Value.oneCell'])) ?_
  clear hS
  rintro _ w hS; (try simp only [List.nil_append, List.cons_append, List.set] at hS)
  refine ol_nil ?_
  refine pq_then ?_
  refine cw_seq ?_
  refine cw_region ?_
  -- r2.0 t16 := buildSlice [29, 1] 0:C0
  refine ol_step rfl (op_buildSlice (el := 3) (is := [0]) (xs := [.const (.int .i64 (0))]) (sz := 1) (cs := [.int .i64 (0)]) hS rfl rfl (fun w => by kernel_rfl) rfl (by decide)) ?_
  clear hS
  rintro _ w ⟨s16, rfl, hS⟩
  obtain ⟨G16, hl16, hS2, h16⟩ := SS.give' [(0 : Int)] [] EInt.mono hS (by decide) (by exact oneInt _ _ (by decide)) rfl
  clear hS
  have hS := hS2
  clear hS2
  (try simp only [List.nil_append, List.cons_append] at hS)
  replace hA := hA.mono ETriv.mono hl16
  replace hR := hR.mono ERule.mono hl16
  -- r2.1 t17 := build [44] 1:t16
  refine ol_pure rfl (op_build (is := [1]) (xs := [.tmp 16]) (v := .agg #[.int .i64 0, .slice s16 1 1]) rfl rfl (fun w => by kernel_rfl)) ?_
  -- r2.2 t18 := buildSlice [29, 2] 0:C1 1:C3
  refine ol_step rfl (op_buildSlice (el := 3) (is := [0, 1]) (xs := [.const (.int .i64 (1)), .const (.int .i64 (3))]) (sz := 1) (cs := [.int .i64 (1), .int .i64 (3)]) hS rfl rfl (fun w => by kernel_rfl) rfl (by decide)) ?_
  clear hS
  rintro _ w ⟨s18, rfl, hS⟩
  obtain ⟨G18, hl18, hS2, h18⟩ := SS.give' [(1 : Int), 3] [] EInt.mono hS (by decide) (by exact twoInt _ _ _ (by decide) (by decide)) rfl
  clear hS
  have hS := hS2
  clear hS2
  (try simp only [List.nil_append, List.cons_append] at hS)
  replace hA := hA.mono ETriv.mono hl18
  replace hR := hR.mono ERule.mono hl18
  replace h16 := h16.mono EInt.mono hl18
  -- r2.3 t19 := build [44] 0:C-1 1:t18
  refine ol_pure rfl (op_build (is := [0, 1]) (xs := [.const (.int .i64 (-1)), .tmp 18]) (v := .agg #[.int .i64 (-1), .slice s18 2 2]) rfl rfl (fun w => by kernel_rfl)) ?_
  -- r2.4 t20 := buildSlice [28, 2] 0:t17 1:t19
  refine ol_step rfl (op_buildSlice (el := 44) (is := [0, 1]) (xs := [.tmp 17, .tmp 19]) (sz := 2) (cs := [.int .i64 0, .slice s16 1 1, .int .i64 (-1), .slice s18 2 2]) hS rfl rfl (fun w => by kernel_rfl) rfl (by decide)) ?_
  clear hS
  rintro _ w ⟨s20, rfl, hS⟩
  obtain ⟨G20, hl20, hS2, h20⟩ := SS.give' [(⟨0, [0]⟩ : Step), ⟨-1, [1, 3]⟩] [] EStep.mono hS (by decide) (by exact ((Rows.nil (sz := 2) (E := EStep) _).snoc (x := ⟨0, [0]⟩) (cs := [.int .i64 0, .slice s16 1 1]) rfl ⟨_, rfl, h16, by decide, by decide⟩).snoc (x := ⟨-1, [1, 3]⟩) (cs := [.int .i64 (-1), .slice s18 2 2]) rfl ⟨_, rfl, h18, by decide, by decide⟩) rfl
  clear hS
  have hS := hS2
  clear hS2
  (try simp only [List.nil_append, List.cons_append] at hS)
  replace hA := hA.mono ETriv.mono hl20
  replace hR := hR.mono ERule.mono hl20
  have hSt := h20
  -- r2.5 t21 := buildSlice [29, 1] 0:C2
  refine ol_step rfl (op_buildSlice (el := 3) (is := [0]) (xs := [.const (.int .i64 (2))]) (sz := 1) (cs := [.int .i64 (2)]) hS rfl rfl (fun w => by kernel_rfl) rfl (by decide)) ?_
  clear hS
  rintro _ w ⟨s21, rfl, hS⟩
  obtain ⟨G21, hl21, hS2, h21⟩ := SS.give' [(2 : Int)] [] EInt.mono hS (by decide) (by exact oneInt _ _ (by decide)) rfl
  clear hS
  have hS := hS2
  clear hS2
  (try simp only [List.nil_append, List.cons_append] at hS)
  replace hA := hA.mono ETriv.mono hl21
  replace hR := hR.mono ERule.mono hl21
  replace hSt := hSt.mono EStep.mono hl21
  have hHo := h21
  -- r2.6 t22 := build [31] 0:t20 1:t21
  refine ol_pure rfl (op_build (is := [0, 1]) (xs := [.tmp 20, .tmp 21]) (v := .agg #[.slice s20 2 2, .slice s21 1 1]) rfl rfl (fun w => by kernel_rfl)) ?_
  -- r2.7 t2 := alloc [31] 
  refine ol_step rfl (op_alloc hS el_31 rfl) ?_
  clear hS
  rintro _ w ⟨b2, rfl, hS⟩
  -- r2.8 _ := store [31] t2 t22
  refine ol_step0  (op_storeN (j := 0) hS sz_31 rfl rfl rfl rfl rfl (by simp [Value.oneCell'])) ?_
  clear hS
  rintro _ w hS; (try simp only [List.nil_append, List.cons_append, List.set] at hS)
  refine ol_nil ?_
  refine pq_then ?_
  refine cw_seq ?_
  refine cw_region ?_
  -- r3.0 t24 := load [25] t1
  refine ol_load rfl (op_loadN agg_25 rfl (by rfl) (fun w hw k u hk => (hw.bcell (i := 1) rfl).trans hk)) hS ?_
  -- r3.1 t25 := load [31] t2
  refine ol_load rfl (op_loadN agg_31 rfl (by rfl) (fun w hw k u hk => (hw.bcell (i := 0) rfl).trans hk)) hS ?_
  -- r3.2 t26 := call f14 t24 t25
  refine ol_step rfl (op_call_fr hS cf_14 rfl (judge_Check_c _ _ hS.hold _ _ (List.replicate 4 ()) rsT hA hR okT _ _ [⟨0, [0]⟩, ⟨-1, [1, 3]⟩] [2] hSt hHo)) ?_
  clear hS
  rintro v26 w ⟨F26, G26, hR26, hF26, hf26, hl26, hS⟩
  obtain ⟨vm26, hv, hM26⟩ := hR26
  rw [show (List.replicate 4 ()).length = 4 from rfl, ck1] at hv hM26
  simp only [Option.isSome_some, Option.isSome_none, Option.getD_some, Option.getD_none] at hv hM26
  subst hv
  replace hM26 := hM26.mono EInt.mono hf26
  replace hA := hA.mono ETriv.mono hl26
  replace hR := hR.mono ERule.mono hl26
  replace hSt := hSt.mono EStep.mono hl26
  replace hHo := hHo.mono EInt.mono hl26
  -- r3.3 t23 := move  t26
  refine ol_pure rfl (op_move rfl) ?_
  -- r3.4 t27 := extract [0] t23
  refine ol_pure rfl (op_extract (vs := [vm26, .bool true]) rfl rfl) ?_
  -- r3.5 t28 := extract [1] t23
  refine ol_pure rfl (op_extract (vs := [vm26, .bool true]) rfl rfl) ?_
  -- r3.6 t3 := assign  t27
  refine ol_pure rfl (op_assign rfl) ?_
  -- r3.7 t4 := assign  t28
  refine ol_pure rfl (op_assign rfl) ?_
  refine ol_nil ?_
  refine pq_then ?_
  refine cw_seq ?_
  refine cw_region ?_
  -- r4.0 t30 := load [25] t1
  refine ol_load rfl (op_loadN agg_25 rfl (by rfl) (fun w hw k u hk => (hw.bcell (i := 1) rfl).trans hk)) hS ?_
  -- r4.1 t31 := fieldAddr [31, 0] t2
  refine ol_pure rfl (op_fieldAddr fld_31_0 rfl) ?_
  -- r4.2 t32 := load [28] t31
  refine ol_load rfl (op_load1 one_28 rfl (fun w hw => (hw.bcell (i := 0) rfl).trans rfl)) hS ?_
  -- r4.3 t33 := build [31] 0:t32
  refine ol_pure rfl (op_build (is := [0]) (xs := [.tmp 32]) (v := .agg #[.slice s20 2 2, .slice none 0 0]) rfl rfl (fun w => by kernel_rfl)) ?_
  -- r4.4 t34 := call f14 t30 t33
  refine ol_step rfl (op_call_fr hS cf_14 rfl (judge_Check_c _ _ hS.hold _ _ (List.replicate 4 ()) rsT hA hR okT _ _ [⟨0, [0]⟩, ⟨-1, [1, 3]⟩] [] hSt (RSl.nil _))) ?_
  clear hS
  rintro v34 w ⟨F34, G34, hR34, hF34, hf34, hl34, hS⟩
  obtain ⟨vm34, hv, hM34⟩ := hR34
  rw [show (List.replicate 4 ()).length = 4 from rfl, ck2] at hv hM34
  simp only [Option.isSome_some, Option.isSome_none, Option.getD_some, Option.getD_none] at hv hM34
  subst hv
  replace hM34 := hM34.mono EInt.mono hf34
  replace hA := hA.mono ETriv.mono hl34
  replace hR := hR.mono ERule.mono hl34
  replace hSt := hSt.mono EStep.mono hl34
  replace hHo := hHo.mono EInt.mono hl34
  replace hM26 := hM26.mono EInt.mono hl34
  -- r4.5 t29 := move  t34
  refine ol_pure rfl (op_move rfl) ?_
  -- r4.6 t35 := extract [0] t29
  refine ol_pure rfl (op_extract (vs := [vm34, .bool false]) rfl rfl) ?_
  -- r4.7 t36 := extract [1] t29
  refine ol_pure rfl (op_extract (vs := [vm34, .bool false]) rfl rfl) ?_
  -- r4.8 t5 := assign  t35
  refine ol_pure rfl (op_assign rfl) ?_
  -- r4.9 t6 := assign  t36
  refine ol_pure rfl (op_assign rfl) ?_
  refine ol_nil ?_
  refine pq_then ?_
  refine cw_seq ?_
  refine al_start' hS (hS.take 2) (by kernel_rfl) rfl (fun w hS hT => ?_)
  -- r5.0 t38 := load [25] t1
  refine al_load (i := 0) rfl (by kernel_rfl) (by kernel_rfl) (by kernel_rfl) rfl (fun _ _ _ h => h) (by exact op_loadN agg_25 rfl (by rfl) (fun w hw k u hk => (hw.bcell (i := 1) rfl).trans hk)) rfl hT ?_
  -- r5.1 t39 := fieldAddr [31, 0] t2
  refine al_take (i := 1) rfl (by kernel_rfl) (by kernel_rfl) (by kernel_rfl) rfl (fun _ _ _ h => h) (op_fieldAddr fld_31_0 rfl) rfl ?_
  -- r5.2 t40 := load [28] t39
  refine al_load (i := 2) rfl (by kernel_rfl) (by kernel_rfl) (by kernel_rfl) rfl (fun _ _ _ h => h) (by exact op_load1 one_28 rfl (fun w hw => (hw.bcell (i := 0) rfl).trans rfl)) rfl hT ?_
  -- r5.3 t41 := slice t40 [:C1:]
  have hcut5 := hSt.cut (lo := 0) (hi := 1) (by decide) (by decide)
  obtain ⟨ox5, cx5, hx5, _, _⟩ := hcut5.elimN (n := 1) rfl
  rw [hx5] at hcut5
  replace hcut5 : RSl 2 EStep _ (.slice ox5 1 cx5) [⟨0, [0]⟩] := hcut5
  refine al_take (i := 3) rfl (by kernel_rfl) (by kernel_rfl) (by kernel_rfl) rfl (fun _ _ _ h => h) (op_val (op_slice_h (h := 1) sl_28 rfl rfl (by decide)) hx5) rfl ?_
  refine al_step (i := 4) rfl (by kernel_rfl) rfl (op_buildSlice (el := 3) (is := [0]) (xs := [.const (.int .i64 (2))]) (sz := 1) (cs := [.int .i64 (2)]) hS rfl rfl (fun w => by kernel_rfl) rfl (by decide)) ?_
  clear hS
  rintro _ w ⟨s42, rfl, hS⟩
  obtain ⟨G42, hl42, hS2, h42⟩ := SS.give' [(2 : Int)] [] EInt.mono hS (by decide) (by exact oneInt _ _ (by decide)) rfl
  clear hS
  have hS := hS2
  clear hS2
  (try simp only [List.nil_append, List.cons_append] at hS)
  replace hA := hA.mono ETriv.mono hl42
  replace hR := hR.mono ERule.mono hl42
  replace hSt := hSt.mono EStep.mono hl42
  replace hHo := hHo.mono EInt.mono hl42
  replace hM26 := hM26.mono EInt.mono hl42
  replace hcut5 := hcut5.mono EStep.mono hl42
  have hT := hT.back hS (by first | exact Le.refl _ | assumption) (fun x hx => by try simp only [List.take_succ_cons, List.take_zero, List.mem_cons, List.not_mem_nil, or_false] at hx; (rcases hx with rfl | rfl) <;> simp)
  refine ⟨fun _ _ => hT, ?_⟩
  -- r5.5 t43 := build [31] 0:t41 1:t42
  refine al_take (i := 5) rfl (by kernel_rfl) (by kernel_rfl) (by kernel_rfl) rfl (fun _ _ _ h => h) (op_build (is := [0, 1]) (xs := [.tmp 41, .tmp 42]) (v := .agg #[.slice ox5 1 cx5, .slice s42 1 1]) rfl rfl (fun w => by kernel_rfl)) rfl ?_
  refine al_step (i := 6) rfl (by kernel_rfl) rfl (op_call_fr hS cf_14 rfl (judge_Check_c _ _ hS.hold _ _ (List.replicate 4 ()) rsT hA hR okT _ _ [⟨0, [0]⟩] [2] hcut5 h42)) ?_
  clear hS
  rintro v44 w ⟨F44, G44, hR44, hF44, hf44, hl44, hS⟩
  obtain ⟨vm44, hv, hM44⟩ := hR44
  rw [show (List.replicate 4 ()).length = 4 from rfl, ck3] at hv hM44
  simp only [Option.isSome_some, Option.isSome_none, Option.getD_some, Option.getD_none] at hv hM44
  subst hv
  replace hM44 := hM44.mono EInt.mono hf44
  replace hA := hA.mono ETriv.mono hl44
  replace hR := hR.mono ERule.mono hl44
  replace hSt := hSt.mono EStep.mono hl44
  replace hHo := hHo.mono EInt.mono hl44
  replace hM26 := hM26.mono EInt.mono hl44
  have hj44 := hl42.trans hl44
  have hT := hT.back hS (by first | exact Le.refl _ | assumption) (fun x hx => by try simp only [List.take_succ_cons, List.take_zero, List.mem_cons, List.not_mem_nil, or_false] at hx; (rcases hx with rfl | rfl) <;> simp)
  refine ⟨fun _ _ => hT, ?_⟩
  -- r5.7 t37 := move  t44
  refine al_take (i := 7) rfl (by kernel_rfl) (by kernel_rfl) (by kernel_rfl) rfl (fun _ _ _ h => h) (op_move rfl) rfl ?_
  -- r5.8 t45 := extract [0] t37
  refine al_take (i := 8) rfl (by kernel_rfl) (by kernel_rfl) (by kernel_rfl) rfl (fun _ _ _ h => h) (op_extract (vs := [vm44, .bool false]) rfl rfl) rfl ?_
  -- r5.9 t46 := extract [1] t37
  refine al_take (i := 9) rfl (by kernel_rfl) (by kernel_rfl) (by kernel_rfl) rfl (fun _ _ _ h => h) (op_extract (vs := [vm44, .bool false]) rfl rfl) rfl ?_
  -- r5.10 t7 := assign  t45
  refine al_take (i := 10) rfl (by kernel_rfl) (by kernel_rfl) (by kernel_rfl) rfl (fun _ _ _ h => h) (op_assign rfl) rfl ?_
  -- r5.11 t8 := assign  t46
  refine al_take (i := 11) rfl (by kernel_rfl) (by kernel_rfl) (by kernel_rfl) rfl (fun _ _ _ h => h) (op_assign rfl) rfl ?_
  refine al_done (by kernel_rfl) ?_
  refine pq_then ?_
  refine cw_seq ?_
  refine al_start' hS (hS.take 2) (by kernel_rfl) rfl (fun w hS hT => ?_)
  -- r6.0 t48 := load [25] t1
  refine al_load (i := 0) rfl (by kernel_rfl) (by kernel_rfl) (by kernel_rfl) rfl (fun _ _ _ h => h) (by exact op_loadN agg_25 rfl (by rfl) (fun w hw k u hk => (hw.bcell (i := 1) rfl).trans hk)) rfl hT ?_
  -- r6.1 t49 := fieldAddr [31, 0] t2
  refine al_take (i := 1) rfl (by kernel_rfl) (by kernel_rfl) (by kernel_rfl) rfl (fun _ _ _ h => h) (op_fieldAddr fld_31_0 rfl) rfl ?_
  -- r6.2 t50 := load [28] t49
  refine al_load (i := 2) rfl (by kernel_rfl) (by kernel_rfl) (by kernel_rfl) rfl (fun _ _ _ h => h) (by exact op_load1 one_28 rfl (fun w hw => (hw.bcell (i := 0) rfl).trans rfl)) rfl hT ?_
  -- r6.3 t51 := slice t50 [C1::]
  have hcut6 := hSt.cut (lo := 1) (hi := 2) (by decide) (by decide)
  obtain ⟨ox6, cx6, hx6, _, _⟩ := hcut6.elimN (n := 1) rfl
  rw [hx6] at hcut6
  replace hcut6 : RSl 2 EStep _ (.slice ox6 1 cx6) [⟨-1, [1, 3]⟩] := hcut6
  refine al_take (i := 3) rfl (by kernel_rfl) (by kernel_rfl) (by kernel_rfl) rfl (fun _ _ _ h => h) (op_val (op_slice_l (l := 1) sl_28 rfl rfl (by decide)) hx6) rfl ?_
  refine al_step (i := 4) rfl (by kernel_rfl) rfl (op_buildSlice (el := 3) (is := [0]) (xs := [.const (.int .i64 (2))]) (sz := 1) (cs := [.int .i64 (2)]) hS rfl rfl (fun w => by kernel_rfl) rfl (by decide)) ?_
  clear hS
  rintro _ w ⟨s52, rfl, hS⟩
  obtain ⟨G52, hl52, hS2, h52⟩ := SS.give' [(2 : Int)] [] EInt.mono hS (by decide) (by exact oneInt _ _ (by decide)) rfl
  clear hS
  have hS := hS2
  clear hS2
  (try simp only [List.nil_append, List.cons_append] at hS)
  replace hA := hA.mono ETriv.mono hl52
  replace hR := hR.mono ERule.mono hl52
  replace hSt := hSt.mono EStep.mono hl52
  replace hHo := hHo.mono EInt.mono hl52
  replace hM26 := hM26.mono EInt.mono hl52
  replace hcut6 := hcut6.mono EStep.mono hl52
  have hT := hT.back hS (by first | exact Le.refl _ | assumption) (fun x hx => by try simp only [List.take_succ_cons, List.take_zero, List.mem_cons, List.not_mem_nil, or_false] at hx; (rcases hx with rfl | rfl) <;> simp)
  refine ⟨fun _ _ => hT, ?_⟩
  -- r6.5 t53 := build [31] 0:t51 1:t52
  refine al_take (i := 5) rfl (by kernel_rfl) (by kernel_rfl) (by kernel_rfl) rfl (fun _ _ _ h => h) (op_build (is := [0, 1]) (xs := [.tmp 51, .tmp 52]) (v := .agg #[.slice ox6 1 cx6, .slice s52 1 1]) rfl rfl (fun w => by kernel_rfl)) rfl ?_
  refine al_step (i := 6) rfl (by kernel_rfl) rfl (op_call_fr hS cf_14 rfl (judge_Check_c _ _ hS.hold _ _ (List.replicate 4 ()) rsT hA hR okT _ _ [⟨-1, [1, 3]⟩] [2] hcut6 h52)) ?_
  clear hS
  rintro v54 w ⟨F54, G54, hR54, hF54, hf54, hl54, hS⟩
  obtain ⟨vm54, hv, hM54⟩ := hR54
  rw [show (List.replicate 4 ()).length = 4 from rfl, ck4] at hv hM54
  simp only [Option.isSome_some, Option.isSome_none, Option.getD_some, Option.getD_none] at hv hM54
  subst hv
  replace hM54 := hM54.mono EInt.mono hf54
  replace hA := hA.mono ETriv.mono hl54
  replace hR := hR.mono ERule.mono hl54
  replace hSt := hSt.mono EStep.mono hl54
  replace hHo := hHo.mono EInt.mono hl54
  replace hM26 := hM26.mono EInt.mono hl54
  have hj54 := hl52.trans hl54
  have hT := hT.back hS (by first | exact Le.refl _ | assumption) (fun x hx => by try simp only [List.take_succ_cons, List.take_zero, List.mem_cons, List.not_mem_nil, or_false] at hx; (rcases hx with rfl | rfl) <;> simp)
  refine ⟨fun _ _ => hT, ?_⟩
  -- r6.7 t47 := move  t54
  refine al_take (i := 7) rfl (by kernel_rfl) (by kernel_rfl) (by kernel_rfl) rfl (fun _ _ _ h => h) (op_move rfl) rfl ?_
  -- r6.8 t55 := extract [0] t47
  refine al_take (i := 8) rfl (by kernel_rfl) (by kernel_rfl) (by kernel_rfl) rfl (fun _ _ _ h => h) (op_extract (vs := [vm54, .bool false]) rfl rfl) rfl ?_
  -- r6.9 t56 := extract [1] t47
  refine al_take (i := 9) rfl (by kernel_rfl) (by kernel_rfl) (by kernel_rfl) rfl (fun _ _ _ h => h) (op_extract (vs := [vm54, .bool false]) rfl rfl) rfl ?_
  -- r6.10 t9 := assign  t55
  refine al_take (i := 10) rfl (by kernel_rfl) (by kernel_rfl) (by kernel_rfl) rfl (fun _ _ _ h => h) (op_assign rfl) rfl ?_
  -- r6.11 t10 := assign  t56
  refine al_take (i := 11) rfl (by kernel_rfl) (by kernel_rfl) (by kernel_rfl) rfl (fun _ _ _ h => h) (op_assign rfl) rfl ?_
  refine al_done (by kernel_rfl) ?_
  refine pq_then ?_
  refine cw_seq ?_
  refine cw_region ?_
  -- r7.0 t58 := load [25] t1
  refine ol_load rfl (op_loadN agg_25 rfl (by rfl) (fun w hw k u hk => (hw.bcell (i := 1) rfl).trans hk)) hS ?_
  -- r7.1 t59 := buildSlice [29, 1] 0:C3
  refine ol_step rfl (op_buildSlice (el := 3) (is := [0]) (xs := [.const (.int .i64 (3))]) (sz := 1) (cs := [.int .i64 (3)]) hS rfl rfl (fun w => by kernel_rfl) rfl (by decide)) ?_
  clear hS
  rintro _ w ⟨s59, rfl, hS⟩
  obtain ⟨G59, hl59, hS2, h59⟩ := SS.give' [(3 : Int)] [] EInt.mono hS (by decide) (by exact oneInt _ _ (by decide)) rfl
  clear hS
  have hS := hS2
  clear hS2
  (try simp only [List.nil_append, List.cons_append] at hS)
  replace hA := hA.mono ETriv.mono hl59
  replace hR := hR.mono ERule.mono hl59
  replace hM26 := hM26.mono EInt.mono hl59
  -- r7.2 t60 := build [44] 0:C-1 1:t59
  refine ol_pure rfl (op_build (is := [0, 1]) (xs := [.const (.int .i64 (-1)), .tmp 59]) (v := .agg #[.int .i64 (-1), .slice s59 1 1]) rfl rfl (fun w => by kernel_rfl)) ?_
  -- r7.3 t61 := buildSlice [29, 1] 0:C1
  refine ol_step rfl (op_buildSlice (el := 3) (is := [0]) (xs := [.const (.int .i64 (1))]) (sz := 1) (cs := [.int .i64 (1)]) hS rfl rfl (fun w => by kernel_rfl) rfl (by decide)) ?_
  clear hS
  rintro _ w ⟨s61, rfl, hS⟩
  obtain ⟨G61, hl61, hS2, h61⟩ := SS.give' [(1 : Int)] [] EInt.mono hS (by decide) (by exact oneInt _ _ (by decide)) rfl
  clear hS
  have hS := hS2
  clear hS2
  (try simp only [List.nil_append, List.cons_append] at hS)
  replace hA := hA.mono ETriv.mono hl61
  replace hR := hR.mono ERule.mono hl61
  replace hM26 := hM26.mono EInt.mono hl61
  replace h59 := h59.mono EInt.mono hl61
  -- r7.4 t62 := build [44] 0:C1 1:t61
  refine ol_pure rfl (op_build (is := [0, 1]) (xs := [.const (.int .i64 (1)), .tmp 61]) (v := .agg #[.int .i64 1, .slice s61 1 1]) rfl rfl (fun w => by kernel_rfl)) ?_
  -- r7.5 t63 := buildSlice [28, 2] 0:t60 1:t62
  refine ol_step rfl (op_buildSlice (el := 44) (is := [0, 1]) (xs := [.tmp 60, .tmp 62]) (sz := 2) (cs := [.int .i64 (-1), .slice s59 1 1, .int .i64 1, .slice s61 1 1]) hS rfl rfl (fun w => by kernel_rfl) rfl (by decide)) ?_
  clear hS
  rintro _ w ⟨s63, rfl, hS⟩
  obtain ⟨G63, hl63, hS2, h63⟩ := SS.give' [(⟨-1, [3]⟩ : Step), ⟨1, [1]⟩] [] EStep.mono hS (by decide) (by exact ((Rows.nil (sz := 2) (E := EStep) _).snoc (x := ⟨-1, [3]⟩) (cs := [.int .i64 (-1), .slice s59 1 1]) rfl ⟨_, rfl, h59, by decide, by decide⟩).snoc (x := ⟨1, [1]⟩) (cs := [.int .i64 1, .slice s61 1 1]) rfl ⟨_, rfl, h61, by decide, by decide⟩) rfl
  clear hS
  have hS := hS2
  clear hS2
  (try simp only [List.nil_append, List.cons_append] at hS)
  replace hA := hA.mono ETriv.mono hl63
  replace hR := hR.mono ERule.mono hl63
  replace hM26 := hM26.mono EInt.mono hl63
  -- r7.6 t64 := call f19 t58 t63
  refine ol_step rfl (op_call_fr hS cf_19 rfl (judge_Partly_c _ _ hS.hold _ _ (List.replicate 4 ()) rsT hA hR okT _ _ h63)) ?_
  clear hS
  rintro v64 w ⟨F64, G64, hR64, hF64, hf64, hl64, hS⟩
  obtain ⟨vm64, hv, hM64⟩ := hR64
  rw [show (List.replicate 4 ()).length = 4 from rfl, ck5] at hv hM64
  subst hv
  replace hM64 := hM64.mono EInt.mono hf64
  replace hM26 := hM26.mono EInt.mono hl64
  -- r7.7 t57 := move  t64
  refine ol_pure rfl (op_move rfl) ?_
  -- r7.8 t65 := extract [0] t57
  refine ol_pure rfl (op_extract (vs := [vm64, .int .i64 1]) rfl rfl) ?_
  -- r7.9 t66 := extract [1] t57
  refine ol_pure rfl (op_extract (vs := [vm64, .int .i64 1]) rfl rfl) ?_
  -- r7.10 t11 := assign  t65
  refine ol_pure rfl (op_assign rfl) ?_
  -- r7.11 t12 := assign  t66
  refine ol_pure rfl (op_assign rfl) ?_
  refine ol_nil ?_
  refine pq_then ?_
  refine cw_seq ?_
  refine cw_region ?_
  -- r8.0 t68 := build [25] 
  refine ol_pure rfl (op_build (is := []) (xs := []) (v := .agg #[.slice none 0 0, .slice none 0 0]) rfl rfl (fun w => by kernel_rfl)) ?_
  -- r8.1 t69 := build [31] 
  refine ol_pure rfl (op_build (is := []) (xs := []) (v := .agg #[.slice none 0 0, .slice none 0 0]) rfl rfl (fun w => by kernel_rfl)) ?_
  -- r8.2 t70 := call f14 t68 t69
  refine ol_step rfl (op_call_fr hS cf_14 rfl (judge_Check_c (E := ETriv) _ _ hS.hold _ _ ([] : List Unit) [] (RSl.nil _) (RSl.nil _) okE _ _ [] [] (RSl.nil _) (RSl.nil _))) ?_
  clear hS
  rintro v70 w ⟨F70, G70, hR70, hF70, hf70, hl70, hS⟩
  obtain ⟨vm70, hv, hM70⟩ := hR70
  rw [show ([] : List Unit).length = 0 from rfl, ck6] at hv hM70
  simp only [Option.isSome_some, Option.getD_some] at hv hM70
  subst hv
  replace hM70 := hM70.mono EInt.mono hf70
  obtain ⟨o70, c70, rfl, _, _⟩ := hM70.elimN (n := 0) rfl
  replace hM26 := hM26.mono EInt.mono hl70
  replace hM64 := hM64.mono EInt.mono hl70
  -- r8.3 t67 := move  t70
  refine ol_pure rfl (op_move rfl) ?_
  -- r8.4 t71 := extract [0] t67
  refine ol_pure rfl (op_extract (vs := [.slice o70 0 c70, .bool true]) rfl rfl) ?_
  -- r8.5 t72 := extract [1] t67
  refine ol_pure rfl (op_extract (vs := [.slice o70 0 c70, .bool true]) rfl rfl) ?_
  -- r8.6 t13 := assign  t71
  refine ol_pure rfl (op_assign rfl) ?_
  -- r8.7 t14 := assign  t72
  refine ol_pure rfl (op_assign rfl) ?_
  refine ol_nil ?_
  refine pq_then ?_
  refine cw_seq ?_
  refine cw_region ?_
  -- r9.0 t73 := move  t3
  refine ol_pure rfl (op_move rfl) ?_
  -- r9.1 t74 := buildSlice [29, 4] 0:C2 1:C0 2:C1 3:C0
  refine ol_step rfl (op_buildSlice (el := 3) (is := [0, 1, 2, 3]) (xs := [.const (.int .i64 (2)), .const (.int .i64 (0)), .const (.int .i64 (1)), .const (.int .i64 (0))]) (sz := 1) (cs := [.int .i64 (2), .int .i64 (0), .int .i64 (1), .int .i64 (0)]) hS rfl rfl (fun w => by kernel_rfl) rfl (by decide)) ?_
  clear hS
  rintro _ w ⟨s74, rfl, hS⟩
  -- r9.2 t75 := call f16 t73 t74
  have hlend := SS.lend (zs := [2, 0, 1, 0]) [] hS (by decide) EInt.mono (Rows.of_map (xs := [2, 0, 1, 0]) (f := Value.int .i64) (E := EInt) (fun y hy => ⟨rfl, by simp at hy; omega⟩)) rfl
  refine ol_step rfl (op_call_sc hS cf_16 rfl (calls_t (by decide) (R07_Ints_c (fullG _) _ (Holds.full _) _ _ [2, 0, 1, 0] [2, 0, 1, 0] (hM26.mono EInt.mono hS.hold.le_full) hlend))) ?_
  clear hS
  rintro _ w ⟨rfl, hS⟩
  -- r9.3 t76 := move  t75
  refine ol_pure rfl (op_move rfl) ?_
  -- r9.4 t77 := move  t4 ?3=True
  refine ol_guard_pure rfl rfl rfl (op_move rfl) ?_
  -- r9.5 t78 := pick  t76 t77 Cfalse
  refine ol_pure rfl (op_pick_t rfl rfl) ?_
  -- r9.6 t79 := move  t78
  refine ol_pure rfl (op_move rfl) ?_
  -- r9.7 t80 := move  t6 ?6=True
  refine ol_guard_pure rfl rfl rfl (op_move rfl) ?_
  -- r9.8 t81 := not t80 ?6=True
  refine ol_guard_pure rfl rfl rfl (op_not rfl) ?_
  -- r9.9 t82 := pick  t79 t81 Cfalse
  refine ol_pure rfl (op_pick_t rfl rfl) ?_
  -- r9.10 t83 := move  t82
  refine ol_pure rfl (op_move rfl) ?_
  -- r9.11 t84 := move  t8 ?10=True
  refine ol_guard_pure rfl rfl rfl (op_move rfl) ?_
  -- r9.12 t85 := not t84 ?10=True
  refine ol_guard_pure rfl rfl rfl (op_not rfl) ?_
  -- r9.13 t86 := pick  t83 t85 Cfalse
  refine ol_pure rfl (op_pick_t rfl rfl) ?_
  -- r9.14 t87 := move  t86
  refine ol_pure rfl (op_move rfl) ?_
  -- r9.15 t88 := move  t10 ?14=True
  refine ol_guard_pure rfl rfl rfl (op_move rfl) ?_
  -- r9.16 t89 := not t88 ?14=True
  refine ol_guard_pure rfl rfl rfl (op_not rfl) ?_
  -- r9.17 t90 := pick  t87 t89 Cfalse
  refine ol_pure rfl (op_pick_t rfl rfl) ?_
  -- r9.18 t91 := move  t90
  refine ol_pure rfl (op_move rfl) ?_
  -- r9.19 t92 := move  t11 ?18=True
  refine ol_guard_pure rfl rfl rfl (op_move rfl) ?_
  -- r9.20 t93 := buildSlice [29, 4] 0:C1 1:C1 2:C1 3:C0 ?18=True
  refine ol_guard_step rfl rfl rfl (op_buildSlice (el := 3) (is := [0, 1, 2, 3]) (xs := [.const (.int .i64 (1)), .const (.int .i64 (1)), .const (.int .i64 (1)), .const (.int .i64 (0))]) (sz := 1) (cs := [.int .i64 (1), .int .i64 (1), .int .i64 (1), .int .i64 (0)]) hS rfl rfl (fun w => by kernel_rfl) rfl (by decide)) ?_
  clear hS
  rintro _ w ⟨s93, rfl, hS⟩
  -- r9.21 t94 := call f16 t92 t93 ?18=True
  have hlend := SS.lend (zs := [1, 1, 1, 0]) [] hS (by decide) EInt.mono (Rows.of_map (xs := [1, 1, 1, 0]) (f := Value.int .i64) (E := EInt) (fun y hy => ⟨rfl, by simp at hy; omega⟩)) rfl
  refine ol_guard_step rfl rfl rfl (op_call_sc hS cf_16 rfl (calls_t (by decide) (R07_Ints_c (fullG _) _ (Holds.full _) _ _ [1, 1, 1, 0] [1, 1, 1, 0] (hM64.mono EInt.mono hS.hold.le_full) hlend))) ?_
  clear hS
  rintro _ w ⟨rfl, hS⟩
  -- r9.22 t95 := pick  t91 t94 Cfalse
  refine ol_pure rfl (op_pick_t rfl rfl) ?_
  -- r9.23 t96 := move  t95
  refine ol_pure rfl (op_move rfl) ?_
  -- r9.24 t97 := move  t12 ?23=True
  refine ol_guard_pure rfl rfl rfl (op_move rfl) ?_
  -- r9.25 t98 := eql t97 C1 ?23=True
  refine ol_guard_pure rfl rfl rfl (op_eqlT rfl rfl rfl) ?_
  -- r9.26 t99 := pick  t96 t98 Cfalse
  refine ol_pure rfl (op_pick_t rfl rfl) ?_
  -- r9.27 t100 := move  t99
  refine ol_pure rfl (op_move rfl) ?_
  -- r9.28 t101 := move  t13 ?27=True
  refine ol_guard_pure rfl rfl rfl (op_move rfl) ?_
  -- r9.29 t102 := call len t101 ?27=True
  refine ol_guard_pure rfl rfl rfl (op_len sl_29 rfl rfl) ?_
  -- r9.30 t103 := eql t102 C0 ?27=True
  refine ol_guard_pure rfl rfl rfl (op_eqlT rfl rfl rfl) ?_
  -- r9.31 t104 := pick  t100 t103 Cfalse
  refine ol_pure rfl (op_pick_t rfl rfl) ?_
  -- r9.32 t105 := move  t104
  refine ol_pure rfl (op_move rfl) ?_
  -- r9.33 t106 := move  t14 ?32=True
  refine ol_guard_pure rfl rfl rfl (op_move rfl) ?_
  -- r9.34 t107 := pick  t105 t106 Cfalse
  refine ol_pure rfl (op_pick_t rfl rfl) ?_
  -- r9.35 t0 := assign  t107
  refine ol_pure rfl (op_assign rfl) ?_
  refine ol_nil ?_
  refine pq_then ?_
  refine cw_ret ?_
  refine ret1 rfl rfl ?_
  -- ret1 
  exact hS.sc_b rfl
end Go.Proofs.Ytbpmkidaoemebaa.K
