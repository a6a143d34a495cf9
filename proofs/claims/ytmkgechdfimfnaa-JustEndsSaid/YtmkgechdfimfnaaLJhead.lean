/-
  The calls of layer 21 whose answers the document fixes.
  No condition but the premises that each theorem names.
-/
import Derived.Test.YtmkgechdfimfnaaR21c
import Derived.Test.YtmkgechdfimfnaaR21e
namespace Go.Proofs.Ytmkgechdfimfnaa.K
open Go Go.RowKit
set_option linter.unusedVariables false
set_option linter.unusedSimpArgs false

open Pl
def RA : List Rule := [⟨0, [], []⟩, ⟨1, [0], [2]⟩]
def RB : List Rule := [⟨0, [], [1]⟩, ⟨1, [], [0]⟩]
def RC : List Rule := [⟨0, [1], []⟩, ⟨1, [0], []⟩]
def PA : List Step := [⟨0, [0]⟩, ⟨-1, [2]⟩, ⟨1, [1]⟩]
abbrev U3 : List Unit := List.replicate 3 ()
abbrev U2 : List Unit := List.replicate 2 ()
theorem madeA : madeR RA 3 = RA := by decide +kernel
theorem madeB : madeR RB 2 = RB := by decide +kernel
theorem madeC : madeR RC 2 = RC := by decide +kernel
theorem whyA : whyP 3 RA = (PA, []) := by decide +kernel
theorem whyB : whyP 2 RB = ([], [0, 1]) := by decide +kernel
theorem whyC : whyP 2 RC = ([⟨-1, [0, 1]⟩], []) := by decide +kernel
theorem knownA : knownI 3 PA = [2, 2, 0] := by decide +kernel
theorem knownB : knownI 2 [] = [1, 1] := by decide +kernel
theorem forA2 : forI 3 RA (PA, []) 2 = ([⟨-1, [2]⟩], []) := by decide +kernel
theorem forA1 : forI 3 RA (PA, []) 1 = (PA, []) := by decide +kernel
theorem forA3 : forI 3 RA (PA, []) 3 = ([], []) := by decide +kernel
theorem forB0 : forI 2 RB ([], [0, 1]) 0 = ([], [0, 1]) := by decide +kernel
theorem leanA : LeanOk RA PA := by unfold LeanOk; decide +kernel
theorem leanB : LeanOk RB [] := by unfold LeanOk; decide +kernel
theorem okA : PrOk U3.length RA := by have h := (madeR_ok RA (n := 3) (by decide) (by decide)).1; rw [madeA] at h; exact h
theorem okB : PrOk U2.length RB := by have h := (madeR_ok RB (n := 2) (by decide) (by decide)).1; rw [madeB] at h; exact h
theorem okC : PrOk U2.length RC := by have h := (madeR_ok RC (n := 2) (by decide) (by decide)).1; rw [madeC] at h; exact h
theorem same_t {G : GH} {w0 : World} (hG : Holds G w0) {vs1 vh1 vs2 vh2 : Value} {l : List Step} {hs : List Int} (h1 : RSl 2 EStep G vs1 l) (h2 : RSl 1 EInt G vh1 hs) (h3 : RSl 2 EStep G vs2 l) (h4 : RSl 1 EInt G vh2 hs) : Calls Try.prog 17 #[.agg #[vs1, vh1], .agg #[vs2, vh2]] w0 (Sc w0 (.bool true)) := by
  have h := R21_Same_c G w0 hG vs1 vh1 l hs h1 h2 vs2 vh2 l hs h3 h4
  rwa [decide_eq_true ⟨rfl, rfl⟩] at h
theorem ints_t {G : GH} {w0 : World} (hG : Holds G w0) {v u : Value} {l : List Int} (h1 : RSl 1 EInt G v l) (h2 : RSl 1 EInt G u l) : Calls Try.prog 18 #[v, u] w0 (Sc w0 (.bool true)) := by
  have h := R21_Ints_c G w0 hG v u l l h1 h2
  rwa [decide_eq_true rfl] at h
theorem whyMono {l : List Step} {hs : List Int} : ∀ (G1 G2 : GH) (v : Value), Le G1 G2 → (∃ vs vh, v = .agg #[vs, vh] ∧ RSl 2 EStep G1 vs l ∧ RSl 1 EInt G1 vh hs) → ∃ vs vh, v = .agg #[vs, vh] ∧ RSl 2 EStep G2 vs l ∧ RSl 1 EInt G2 vh hs :=
  fun _ _ _ hl ⟨vs, vh, h1, h2, h3⟩ => ⟨vs, vh, h1, h2.mono EStep.mono hl, h3.mono EInt.mono hl⟩
theorem madeMono {α : Type} {E : ER α} (hE : EMono E) {l : List α} {rs : List Rule} : ∀ (G1 G2 : GH) (v : Value), Le G1 G2 → (∃ va vr, v = .agg #[va, vr] ∧ RSl 1 E G1 va l ∧ RSl 3 ERule G1 vr rs) → ∃ va vr, v = .agg #[va, vr] ∧ RSl 1 E G2 va l ∧ RSl 3 ERule G2 vr rs :=
  fun _ _ _ hl ⟨vs, vh, h1, h2, h3⟩ => ⟨vs, vh, h1, h2.mono hE hl, h3.mono ERule.mono hl⟩
theorem whyRt {w : World} {G : GH} {f : FuncId} {args : Array Value} {p : List Step × List Int} {l : List Step} {hs : List Int} (h : Calls Try.prog f args w (Rt G w (fun G v => ∃ vs vh, v = .agg #[vs, vh] ∧ RSl 2 EStep G vs p.1 ∧ RSl 1 EInt G vh p.2))) (he : p = (l, hs)) : Calls Try.prog f args w (Rt G w (fun G v => ∃ vs vh, v = .agg #[vs, vh] ∧ RSl 2 EStep G vs l ∧ RSl 1 EInt G vh hs)) := by subst he; exact h
theorem madeRt {w : World} {G : GH} {f : FuncId} {args : Array Value} {k n : Nat} {rs l : List Rule} (h : Calls Try.prog f args w (Rt G w (fun G v => ∃ va vr, v = .agg #[va, vr] ∧ RSl 1 ETriv G va (List.replicate k ()) ∧ RSl 3 ERule G vr rs))) (hk : k = n) (he : rs = l) : Calls Try.prog f args w (Rt G w (fun G v => ∃ va vr, v = .agg #[va, vr] ∧ RSl 1 ETriv G va (List.replicate n ()) ∧ RSl 3 ERule G vr l)) := by subst hk; subst he; exact h
theorem knownRt {w : World} {f : FuncId} {args : Array Value} {l l2 : List Int} (h : Calls Try.prog f args w (Rt noG w (fun G v => RSl 1 EInt G v l))) (he : l = l2) : Calls Try.prog f args w (Rt noG w (fun G v => RSl 1 EInt G v l2)) := by subst he; exact h
theorem erule {G : GH} {x : Rule} {p q : Value} (h1 : RSl 1 EInt G p x.pos) (h2 : RSl 1 EInt G q x.neg) (hb : -9223372036854775808 ≤ x.head ∧ x.head ≤ 9223372036854775807) : ERule G [.int .i64 x.head, p, q] x := ⟨p, q, rfl, h1, h2, hb⟩
theorem estep {G : GH} {x : Step} {p : Value} (h1 : RSl 1 EInt G p x.atoms) (hb : -9223372036854775808 ≤ x.rule ∧ x.rule ≤ 9223372036854775807) : EStep G [.int .i64 x.rule, p] x := ⟨p, rfl, h1, hb⟩
theorem rules2 {G : GH} {x y : Rule} {p q p' q' : Value} (h1 : ERule G [.int .i64 x.head, p, q] x) (h2 : ERule G [.int .i64 y.head, p', q'] y) : Rows 3 ERule G [.int .i64 x.head, p, q, .int .i64 y.head, p', q'] [x, y] := by
  have := ((Rows.nil (sz := 3) (E := ERule) G).snoc rfl h1).snoc rfl h2
  exact this
theorem steps1 {G : GH} {x : Step} {p : Value} (h1 : EStep G [.int .i64 x.rule, p] x) : Rows 2 EStep G [.int .i64 x.rule, p] [x] := by
  have := (Rows.nil (sz := 2) (E := EStep) G).snoc rfl h1
  exact this
theorem steps3 {G : GH} {x y z : Step} {p q r : Value} (h1 : EStep G [.int .i64 x.rule, p] x) (h2 : EStep G [.int .i64 y.rule, q] y) (h3 : EStep G [.int .i64 z.rule, r] z) : Rows 2 EStep G [.int .i64 x.rule, p, .int .i64 y.rule, q, .int .i64 z.rule, r] [x, y, z] := by
  have := (((Rows.nil (sz := 2) (E := EStep) G).snoc rfl h1).snoc rfl h2).snoc rfl h3
  exact this

set_option maxRecDepth 100000 in
set_option maxHeartbeats 8000000 in

theorem L21_head_c (G : GH) (w0 : World) (hG : Holds G w0)  :
   Calls Try.prog 10 #[] w0 (Sc w0 (.bool true)) := by
 refine enter Try.func10 rfl (N := 99) rfl (Nat.le_of_ble_eq_true rfl) ?_
 have hS := SS.init hG
 refine cw_seq ?_
 refine cw_region ?_
 refine ol_pure rfl (op_assign rfl) ?_
 refine ol_nil ?_
 refine pq_then ?_
 refine cw_seq ?_
 have hcur := Le.refl G
 refine cw_region ?_
 refine ol_pure rfl (op_build (is := []) (xs := []) (v := .agg #[.int .i64 0, .slice none 0 0, .slice none 0 0]) rfl rfl (fun w => by kernel_rfl)) ?_
 refine ol_step rfl (op_buildSlice (el := 3) (is := [0]) (xs := [.const (.int .i64 (0))]) (sz := 1) (cs := [.int .i64 0]) hS rfl rfl (fun w => by kernel_rfl) rfl (by decide)) ?_
 clear hS
 rintro _ w ⟨s6, rfl, hS⟩
 obtain ⟨G6, hl6, hS6, hi6⟩ := SS.give' ([0] : List Int) [] EInt.mono hS (by decide) ((Rows.ints (l := [0]) (by decide)).mono EInt.mono (fun b o hb => by cases hb)) rfl
 clear hS
 have hS := hS6
 clear hS6
 (try simp only [List.nil_append, List.cons_append] at hS)
 replace hcur := hcur.trans hl6
 refine ol_step rfl (op_buildSlice (el := 3) (is := [0]) (xs := [.const (.int .i64 (2))]) (sz := 1) (cs := [.int .i64 2]) hS rfl rfl (fun w => by kernel_rfl) rfl (by decide)) ?_
 clear hS
 rintro _ w ⟨s7, rfl, hS⟩
 obtain ⟨G7, hl7, hS7, hi7⟩ := SS.give' ([2] : List Int) [] EInt.mono hS (by decide) ((Rows.ints (l := [2]) (by decide)).mono EInt.mono (fun b o hb => by cases hb)) rfl
 clear hS
 have hS := hS7
 clear hS7
 (try simp only [List.nil_append, List.cons_append] at hS)
 replace hi6 := hi6.mono EInt.mono hl7
 replace hcur := hcur.trans hl7
 refine ol_pure rfl (op_build (is := [0, 1, 2]) (xs := [.const (.int .i64 (1)), .tmp 6, .tmp 7]) (v := .agg #[.int .i64 1, .slice s6 1 1, .slice s7 1 1]) rfl rfl (fun w => by kernel_rfl)) ?_
 refine ol_step rfl (op_buildSlice (el := 30) (is := [0, 1]) (xs := [.tmp 5, .tmp 8]) (sz := 3) (cs := [.int .i64 0, .slice none 0 0, .slice none 0 0, .int .i64 1, .slice s6 1 1, .slice s7 1 1]) hS rfl rfl (fun w => by kernel_rfl) rfl (by decide)) ?_
 clear hS
 rintro _ w ⟨s9, rfl, hS⟩
 obtain ⟨G9, hl9, hS9, hr9⟩ := SS.give' RA [] ERule.mono hS (by decide) (rules2 (erule (x := RA[0]) (RSl.nil _) (RSl.nil _) (by decide)) (erule (x := RA[1]) (hi6) (hi7) (by decide))) rfl
 clear hS
 have hS := hS9
 clear hS9
 (try simp only [List.nil_append, List.cons_append] at hS)
 replace hcur := hcur.trans hl9
 refine ol_step rfl (op_call_rt hS cf_11 rfl (fun _ => .inr rfl) (madeMono ETriv.mono) (madeRt (R18_Made_c _ _ hS.hold _ RA hr9 2 (by decide)) (n := 3) (l := RA) (by decide) (by exact madeA))) ?_
 clear hS
 rintro v10 w ⟨G10, hl10, hR10, hS⟩
 obtain ⟨vaA, vrA, rfl, hAA, hRA⟩ := hR10
 obtain ⟨oAA, cAA, rfl, _, _⟩ := hAA.elimN (n := 3) rfl
 obtain ⟨oRA, cRA, rfl, _, _⟩ := hRA.elimN (n := 2) rfl
 replace hcur := hcur.trans hl10
 refine ol_step rfl (op_alloc hS el_26 rfl) ?_
 clear hS
 rintro _ w ⟨bA, rfl, hS⟩
 refine ol_step0  (op_storeN (j := 0) hS sz_26 rfl rfl rfl rfl rfl (by simp [Value.oneCell'])) ?_
 clear hS
 rintro _ w hS; (try simp only [List.nil_append, List.cons_append, List.set] at hS)
 refine ol_nil ?_
 refine pq_then ?_
 refine cw_seq ?_
 refine cw_region ?_
 refine ol_step rfl (op_buildSlice (el := 3) (is := [0]) (xs := [.const (.int .i64 (1))]) (sz := 1) (cs := [.int .i64 1]) hS rfl rfl (fun w => by kernel_rfl) rfl (by decide)) ?_
 clear hS
 rintro _ w ⟨s11, rfl, hS⟩
 obtain ⟨G11, hl11, hS11, hi11⟩ := SS.give' ([1] : List Int) [] EInt.mono hS (by decide) ((Rows.ints (l := [1]) (by decide)).mono EInt.mono (fun b o hb => by cases hb)) rfl
 clear hS
 have hS := hS11
 clear hS11
 (try simp only [List.nil_append, List.cons_append] at hS)
 replace hAA := hAA.mono ETriv.mono hl11
 replace hRA := hRA.mono ERule.mono hl11
 replace hcur := hcur.trans hl11
 refine ol_pure rfl (op_build (is := [2]) (xs := [.tmp 11]) (v := .agg #[.int .i64 0, .slice none 0 0, .slice s11 1 1]) rfl rfl (fun w => by kernel_rfl)) ?_
 refine ol_step rfl (op_buildSlice (el := 3) (is := [0]) (xs := [.const (.int .i64 (0))]) (sz := 1) (cs := [.int .i64 0]) hS rfl rfl (fun w => by kernel_rfl) rfl (by decide)) ?_
 clear hS
 rintro _ w ⟨s13, rfl, hS⟩
 obtain ⟨G13, hl13, hS13, hi13⟩ := SS.give' ([0] : List Int) [] EInt.mono hS (by decide) ((Rows.ints (l := [0]) (by decide)).mono EInt.mono (fun b o hb => by cases hb)) rfl
 clear hS
 have hS := hS13
 clear hS13
 (try simp only [List.nil_append, List.cons_append] at hS)
 replace hAA := hAA.mono ETriv.mono hl13
 replace hRA := hRA.mono ERule.mono hl13
 replace hi11 := hi11.mono EInt.mono hl13
 replace hcur := hcur.trans hl13
 refine ol_pure rfl (op_build (is := [0, 2]) (xs := [.const (.int .i64 (1)), .tmp 13]) (v := .agg #[.int .i64 1, .slice none 0 0, .slice s13 1 1]) rfl rfl (fun w => by kernel_rfl)) ?_
 refine ol_step rfl (op_buildSlice (el := 30) (is := [0, 1]) (xs := [.tmp 12, .tmp 14]) (sz := 3) (cs := [.int .i64 0, .slice none 0 0, .slice s11 1 1, .int .i64 1, .slice none 0 0, .slice s13 1 1]) hS rfl rfl (fun w => by kernel_rfl) rfl (by decide)) ?_
 clear hS
 rintro _ w ⟨s15, rfl, hS⟩
 obtain ⟨G15, hl15, hS15, hr15⟩ := SS.give' RB [] ERule.mono hS (by decide) (rules2 (erule (x := RB[0]) (RSl.nil _) (hi11) (by decide)) (erule (x := RB[1]) (RSl.nil _) (hi13) (by decide))) rfl
 clear hS
 have hS := hS15
 clear hS15
 (try simp only [List.nil_append, List.cons_append] at hS)
 replace hAA := hAA.mono ETriv.mono hl15
 replace hRA := hRA.mono ERule.mono hl15
 replace hcur := hcur.trans hl15
 refine ol_step rfl (op_call_rt hS cf_11 rfl (fun _ => .inr rfl) (madeMono ETriv.mono) (madeRt (R18_Made_c _ _ hS.hold _ RB hr15 1 (by decide)) (n := 2) (l := RB) (by decide) (by exact madeB))) ?_
 clear hS
 rintro v16 w ⟨G16, hl16, hR16, hS⟩
 obtain ⟨vaB, vrB, rfl, hAB, hRB⟩ := hR16
 obtain ⟨oAB, cAB, rfl, _, _⟩ := hAB.elimN (n := 2) rfl
 obtain ⟨oRB, cRB, rfl, _, _⟩ := hRB.elimN (n := 2) rfl
 replace hAA := hAA.mono ETriv.mono hl16
 replace hRA := hRA.mono ERule.mono hl16
 replace hcur := hcur.trans hl16
 refine ol_step rfl (op_alloc hS el_26 rfl) ?_
 clear hS
 rintro _ w ⟨bB, rfl, hS⟩
 refine ol_step0  (op_storeN (j := 0) hS sz_26 rfl rfl rfl rfl rfl (by simp [Value.oneCell'])) ?_
 clear hS
 rintro _ w hS; (try simp only [List.nil_append, List.cons_append, List.set] at hS)
 refine ol_nil ?_
 refine pq_then ?_
 refine cw_seq ?_
 refine cw_region ?_
 refine ol_step rfl (op_buildSlice (el := 3) (is := [0]) (xs := [.const (.int .i64 (1))]) (sz := 1) (cs := [.int .i64 1]) hS rfl rfl (fun w => by kernel_rfl) rfl (by decide)) ?_
 clear hS
 rintro _ w ⟨s17, rfl, hS⟩
 obtain ⟨G17, hl17, hS17, hi17⟩ := SS.give' ([1] : List Int) [] EInt.mono hS (by decide) ((Rows.ints (l := [1]) (by decide)).mono EInt.mono (fun b o hb => by cases hb)) rfl
 clear hS
 have hS := hS17
 clear hS17
 (try simp only [List.nil_append, List.cons_append] at hS)
 replace hAA := hAA.mono ETriv.mono hl17
 replace hRA := hRA.mono ERule.mono hl17
 replace hAB := hAB.mono ETriv.mono hl17
 replace hRB := hRB.mono ERule.mono hl17
 replace hcur := hcur.trans hl17
 refine ol_pure rfl (op_build (is := [1]) (xs := [.tmp 17]) (v := .agg #[.int .i64 0, .slice s17 1 1, .slice none 0 0]) rfl rfl (fun w => by kernel_rfl)) ?_
 refine ol_step rfl (op_buildSlice (el := 3) (is := [0]) (xs := [.const (.int .i64 (0))]) (sz := 1) (cs := [.int .i64 0]) hS rfl rfl (fun w => by kernel_rfl) rfl (by decide)) ?_
 clear hS
 rintro _ w ⟨s19, rfl, hS⟩
 obtain ⟨G19, hl19, hS19, hi19⟩ := SS.give' ([0] : List Int) [] EInt.mono hS (by decide) ((Rows.ints (l := [0]) (by decide)).mono EInt.mono (fun b o hb => by cases hb)) rfl
 clear hS
 have hS := hS19
 clear hS19
 (try simp only [List.nil_append, List.cons_append] at hS)
 replace hAA := hAA.mono ETriv.mono hl19
 replace hRA := hRA.mono ERule.mono hl19
 replace hAB := hAB.mono ETriv.mono hl19
 replace hRB := hRB.mono ERule.mono hl19
 replace hi17 := hi17.mono EInt.mono hl19
 replace hcur := hcur.trans hl19
 refine ol_pure rfl (op_build (is := [0, 1]) (xs := [.const (.int .i64 (1)), .tmp 19]) (v := .agg #[.int .i64 1, .slice s19 1 1, .slice none 0 0]) rfl rfl (fun w => by kernel_rfl)) ?_
 refine ol_step rfl (op_buildSlice (el := 30) (is := [0, 1]) (xs := [.tmp 18, .tmp 20]) (sz := 3) (cs := [.int .i64 0, .slice s17 1 1, .slice none 0 0, .int .i64 1, .slice s19 1 1, .slice none 0 0]) hS rfl rfl (fun w => by kernel_rfl) rfl (by decide)) ?_
 clear hS
 rintro _ w ⟨s21, rfl, hS⟩
 obtain ⟨G21, hl21, hS21, hr21⟩ := SS.give' RC [] ERule.mono hS (by decide) (rules2 (erule (x := RC[0]) (hi17) (RSl.nil _) (by decide)) (erule (x := RC[1]) (hi19) (RSl.nil _) (by decide))) rfl
 clear hS
 have hS := hS21
 clear hS21
 (try simp only [List.nil_append, List.cons_append] at hS)
 replace hAA := hAA.mono ETriv.mono hl21
 replace hRA := hRA.mono ERule.mono hl21
 replace hAB := hAB.mono ETriv.mono hl21
 replace hRB := hRB.mono ERule.mono hl21
 replace hcur := hcur.trans hl21
 refine ol_step rfl (op_call_rt hS cf_11 rfl (fun _ => .inr rfl) (madeMono ETriv.mono) (madeRt (R18_Made_c _ _ hS.hold _ RC hr21 1 (by decide)) (n := 2) (l := RC) (by decide) (by exact madeC))) ?_
 clear hS
 rintro v22 w ⟨G22, hl22, hR22, hS⟩
 obtain ⟨vaC, vrC, rfl, hAC, hRC⟩ := hR22
 obtain ⟨oAC, cAC, rfl, _, _⟩ := hAC.elimN (n := 2) rfl
 obtain ⟨oRC, cRC, rfl, _, _⟩ := hRC.elimN (n := 2) rfl
 replace hAA := hAA.mono ETriv.mono hl22
 replace hRA := hRA.mono ERule.mono hl22
 replace hAB := hAB.mono ETriv.mono hl22
 replace hRB := hRB.mono ERule.mono hl22
 replace hcur := hcur.trans hl22
 refine ol_step rfl (op_alloc hS el_26 rfl) ?_
 clear hS
 rintro _ w ⟨bC, rfl, hS⟩
 refine ol_step0  (op_storeN (j := 0) hS sz_26 rfl rfl rfl rfl rfl (by simp [Value.oneCell'])) ?_
 clear hS
 rintro _ w hS; (try simp only [List.nil_append, List.cons_append, List.set] at hS)
 refine ol_nil ?_
 refine pq_then ?_
 refine cw_seq ?_
 refine cw_region ?_
 refine ol_step rfl (op_buildSlice (el := 3) (is := [0]) (xs := [.const (.int .i64 (0))]) (sz := 1) (cs := [.int .i64 0]) hS rfl rfl (fun w => by kernel_rfl) rfl (by decide)) ?_
 clear hS
 rintro _ w ⟨s23, rfl, hS⟩
 obtain ⟨G23, hl23, hS23, hi23⟩ := SS.give' ([0] : List Int) [] EInt.mono hS (by decide) ((Rows.ints (l := [0]) (by decide)).mono EInt.mono (fun b o hb => by cases hb)) rfl
 clear hS
 have hS := hS23
 clear hS23
 (try simp only [List.nil_append, List.cons_append] at hS)
 replace hAA := hAA.mono ETriv.mono hl23
 replace hRA := hRA.mono ERule.mono hl23
 replace hAB := hAB.mono ETriv.mono hl23
 replace hRB := hRB.mono ERule.mono hl23
 replace hAC := hAC.mono ETriv.mono hl23
 replace hRC := hRC.mono ERule.mono hl23
 replace hcur := hcur.trans hl23
 refine ol_pure rfl (op_build (is := [1]) (xs := [.tmp 23]) (v := .agg #[.int .i64 0, .slice s23 1 1]) rfl rfl (fun w => by kernel_rfl)) ?_
 refine ol_step rfl (op_buildSlice (el := 3) (is := [0]) (xs := [.const (.int .i64 (2))]) (sz := 1) (cs := [.int .i64 2]) hS rfl rfl (fun w => by kernel_rfl) rfl (by decide)) ?_
 clear hS
 rintro _ w ⟨s25, rfl, hS⟩
 obtain ⟨G25, hl25, hS25, hi25⟩ := SS.give' ([2] : List Int) [] EInt.mono hS (by decide) ((Rows.ints (l := [2]) (by decide)).mono EInt.mono (fun b o hb => by cases hb)) rfl
 clear hS
 have hS := hS25
 clear hS25
 (try simp only [List.nil_append, List.cons_append] at hS)
 replace hAA := hAA.mono ETriv.mono hl25
 replace hRA := hRA.mono ERule.mono hl25
 replace hAB := hAB.mono ETriv.mono hl25
 replace hRB := hRB.mono ERule.mono hl25
 replace hAC := hAC.mono ETriv.mono hl25
 replace hRC := hRC.mono ERule.mono hl25
 replace hi23 := hi23.mono EInt.mono hl25
 replace hcur := hcur.trans hl25
 refine ol_pure rfl (op_build (is := [0, 1]) (xs := [.const (.int .i64 (-1)), .tmp 25]) (v := .agg #[.int .i64 (-1), .slice s25 1 1]) rfl rfl (fun w => by kernel_rfl)) ?_
 refine ol_step rfl (op_buildSlice (el := 3) (is := [0]) (xs := [.const (.int .i64 (1))]) (sz := 1) (cs := [.int .i64 1]) hS rfl rfl (fun w => by kernel_rfl) rfl (by decide)) ?_
 clear hS
 rintro _ w ⟨s27, rfl, hS⟩
 obtain ⟨G27, hl27, hS27, hi27⟩ := SS.give' ([1] : List Int) [] EInt.mono hS (by decide) ((Rows.ints (l := [1]) (by decide)).mono EInt.mono (fun b o hb => by cases hb)) rfl
 clear hS
 have hS := hS27
 clear hS27
 (try simp only [List.nil_append, List.cons_append] at hS)
 replace hAA := hAA.mono ETriv.mono hl27
 replace hRA := hRA.mono ERule.mono hl27
 replace hAB := hAB.mono ETriv.mono hl27
 replace hRB := hRB.mono ERule.mono hl27
 replace hAC := hAC.mono ETriv.mono hl27
 replace hRC := hRC.mono ERule.mono hl27
 replace hi23 := hi23.mono EInt.mono hl27
 replace hi25 := hi25.mono EInt.mono hl27
 replace hcur := hcur.trans hl27
 refine ol_pure rfl (op_build (is := [0, 1]) (xs := [.const (.int .i64 (1)), .tmp 27]) (v := .agg #[.int .i64 1, .slice s27 1 1]) rfl rfl (fun w => by kernel_rfl)) ?_
 refine ol_step rfl (op_buildSlice (el := 37) (is := [0, 1, 2]) (xs := [.tmp 24, .tmp 26, .tmp 28]) (sz := 2) (cs := [.int .i64 0, .slice s23 1 1, .int .i64 (-1), .slice s25 1 1, .int .i64 1, .slice s27 1 1]) hS rfl rfl (fun w => by kernel_rfl) rfl (by decide)) ?_
 clear hS
 rintro _ w ⟨s29, rfl, hS⟩
 obtain ⟨G29, hl29, hS29, hP⟩ := SS.give' PA [] EStep.mono hS (by decide) (steps3 (estep (x := PA[0]) (hi23) (by decide)) (estep (x := PA[1]) (hi25) (by decide)) (estep (x := PA[2]) (hi27) (by decide))) rfl
 clear hS
 have hS := hS29
 clear hS29
 (try simp only [List.nil_append, List.cons_append] at hS)
 replace hAA := hAA.mono ETriv.mono hl29
 replace hRA := hRA.mono ERule.mono hl29
 replace hAB := hAB.mono ETriv.mono hl29
 replace hRB := hRB.mono ERule.mono hl29
 replace hAC := hAC.mono ETriv.mono hl29
 replace hRC := hRC.mono ERule.mono hl29
 replace hcur := hcur.trans hl29
 refine ol_pure rfl (op_build (is := [0]) (xs := [.tmp 29]) (v := .agg #[.slice s29 3 3, .slice none 0 0]) rfl rfl (fun w => by kernel_rfl)) ?_
 refine ol_step rfl (op_alloc hS el_34 rfl) ?_
 clear hS
 rintro _ w ⟨bP, rfl, hS⟩
 refine ol_step0  (op_storeN (j := 0) hS sz_34 rfl rfl rfl rfl rfl (by simp [Value.oneCell'])) ?_
 clear hS
 rintro _ w hS; (try simp only [List.nil_append, List.cons_append, List.set] at hS)
 refine ol_nil ?_
 refine pq_then ?_
 refine cw_seq ?_
 have hcur := Le.refl G29
 refine al_start' hS (hS.take 4) (by kernel_rfl) rfl (fun w hS hT => ?_)
 refine al_load (i := 0) rfl (by kernel_rfl) (by kernel_rfl) (by kernel_rfl) rfl (fun _ _ _ h => h) (by exact op_loadN agg_26 rfl (by rfl) (fun w hw k u hk => (hw.bcell (i := 3) rfl).trans hk)) rfl hT ?_
 refine al_load (i := 2) rfl (by kernel_rfl) (by kernel_rfl) (by kernel_rfl) rfl (fun _ _ _ h => h) (by exact op_loadN agg_34 rfl (by rfl) (fun w hw k u hk => (hw.bcell (i := 0) rfl).trans hk)) rfl hT ?_
 refine al_step (i := 1) rfl (by kernel_rfl) rfl (op_call_rt hS cf_13 rfl (fun _ => .inr rfl) (whyMono) (whyRt (just_Why_c _ _ hS.hold ETriv.mono _ _ U3 RA hAA hRA okA) (l := PA) (hs := []) whyA)) ?_
 clear hS
 rintro v32 w ⟨G32, hl32, hR32, hS⟩
 obtain ⟨vs32, vh32, rfl, hs32, hh32⟩ := hR32
 replace hAA := hAA.mono ETriv.mono hl32
 replace hRA := hRA.mono ERule.mono hl32
 replace hAB := hAB.mono ETriv.mono hl32
 replace hRB := hRB.mono ERule.mono hl32
 replace hAC := hAC.mono ETriv.mono hl32
 replace hRC := hRC.mono ERule.mono hl32
 replace hP := hP.mono EStep.mono hl32
 replace hcur := hcur.trans hl32
 have hT := hT.back hS (by first | exact Le.refl _ | assumption) (fun x hx => by try simp only [List.take_succ_cons, List.take_zero, List.mem_cons, List.not_mem_nil, or_false] at hx; (rcases hx with rfl | rfl | rfl | rfl) <;> simp)
 refine ⟨fun _ _ => hT, ?_⟩
 refine al_step (i := 3) rfl (by kernel_rfl) rfl (op_call_sc hS cf_17 rfl (same_t hS.hold hs32 hh32 (hP) (RSl.nil _))) ?_
 clear hS
 rintro _ w ⟨rfl, hS⟩
 have hT := hT.back hS (by first | exact Le.refl _ | assumption) (fun x hx => by try simp only [List.take_succ_cons, List.take_zero, List.mem_cons, List.not_mem_nil, or_false] at hx; (rcases hx with rfl | rfl | rfl | rfl) <;> simp)
 refine ⟨fun _ _ => hT, ?_⟩
 refine al_take (i := 4) rfl (by kernel_rfl) (by kernel_rfl) (by kernel_rfl) rfl (fun _ _ _ h => h) (op_move rfl) rfl ?_
 refine al_gload (i := 5) rfl (by kernel_rfl) (by kernel_rfl) (by kernel_rfl) rfl rfl rfl (fun _ _ _ h => h) (by exact op_loadN agg_26 rfl (by rfl) (fun w hw k u hk => (hw.bcell (i := 2) rfl).trans hk)) rfl hT ?_
 refine al_meet (fuel2 := 60) (ds2 := [8, 7, 6, 5, 4, 3, 2, 1, 0]) (fun e w => ∃ vs37 vh37 s38 G40, e = [(1, .pointer (some ⟨bA, 0, none⟩)), (2, .pointer (some ⟨bB, 0, none⟩)), (3, .pointer (some ⟨bC, 0, none⟩)), (4, .pointer (some ⟨bP, 0, none⟩)), (35, .bool true), (37, .agg #[vs37, vh37]), (39, .agg #[.slice none 0 0, .slice s38 2 2])] ∧ Le G29 G40 ∧ Le G32 G40 ∧ RSl 2 EStep G40 vs37 [] ∧ RSl 1 EInt G40 vh37 [0, 1] ∧ RSl 1 EInt G40 (.slice s38 2 2) [0, 1] ∧ SS G w0 G40 [.blk bP 34 [.slice s29 3 3, .slice none 0 0], .blk bC 26 [.slice oAC 2 cAC, .slice oRC 2 cRC], .blk bB 26 [.slice oAB 2 cAB, .slice oRB 2 cRB], .blk bA 26 [.slice oAA 3 cAA, .slice oRA 2 cRA]] w) (fun K5 => ?_) ?_
 ·
  skip
  refine al_two (i := 6) (j := 7) (by kernel_rfl) (fun a ha => ?_) (fun a ha => ?_)
  ·
   skip
   refine wpOp_of_opkg (i := 6) rfl rfl rfl ha (op_call_rt hS cf_13 rfl (fun _ => .inr rfl) (whyMono) (whyRt (just_Why_c _ _ hS.hold ETriv.mono _ _ U2 RB hAB hRB okB) (l := []) (hs := [0, 1]) whyB)) ?_
   clear hS
   rintro v37 w ⟨G37, hl37, hR37, hS⟩
   obtain ⟨vs37, vh37, rfl, hs37, hh37⟩ := hR37
   replace hAA := hAA.mono ETriv.mono hl37
   replace hRA := hRA.mono ERule.mono hl37
   replace hAB := hAB.mono ETriv.mono hl37
   replace hRB := hRB.mono ERule.mono hl37
   replace hAC := hAC.mono ETriv.mono hl37
   replace hRC := hRC.mono ERule.mono hl37
   replace hP := hP.mono EStep.mono hl37
   replace hcur := hcur.trans hl37
   (try replace hi38 := hi38.mono EInt.mono hl37)
   have hT := hT.back hS (by first | exact Le.refl _ | assumption) (fun x hx => by try simp only [List.take_succ_cons, List.take_zero, List.mem_cons, List.not_mem_nil, or_false] at hx; (rcases hx with rfl | rfl | rfl | rfl) <;> simp)
   refine ⟨fun _ _ => hT, ?_⟩
   refine al_at ?_ (ha.put (blt_lt rfl) _)
   refine al_gstep (i := 7) rfl (by kernel_rfl) rfl rfl rfl (op_buildSlice (el := 3) (is := [0, 1]) (xs := [.const (.int .i64 (0)), .const (.int .i64 (1))]) (sz := 1) (cs := [.int .i64 0, .int .i64 1]) hS rfl rfl (fun w => by kernel_rfl) rfl (by decide)) ?_
   clear hS
   rintro _ w ⟨s38, rfl, hS⟩
   obtain ⟨G38, hl38, hS38, hi38⟩ := SS.give' ([0, 1] : List Int) [] EInt.mono hS (by decide) ((Rows.ints (l := [0, 1]) (by decide)).mono EInt.mono (fun b o hb => by cases hb)) rfl
   clear hS
   have hS := hS38
   clear hS38
   (try simp only [List.nil_append, List.cons_append] at hS)
   replace hAA := hAA.mono ETriv.mono hl38
   replace hRA := hRA.mono ERule.mono hl38
   replace hAB := hAB.mono ETriv.mono hl38
   replace hRB := hRB.mono ERule.mono hl38
   replace hAC := hAC.mono ETriv.mono hl38
   replace hRC := hRC.mono ERule.mono hl38
   replace hP := hP.mono EStep.mono hl38
   replace hcur := hcur.trans hl38
   (try replace hs37 := hs37.mono EStep.mono hl38)
   (try replace hh37 := hh37.mono EInt.mono hl38)
   have hT := hT.back hS (by first | exact Le.refl _ | assumption) (fun x hx => by try simp only [List.take_succ_cons, List.take_zero, List.mem_cons, List.not_mem_nil, or_false] at hx; (rcases hx with rfl | rfl | rfl | rfl) <;> simp)
   refine ⟨fun _ _ => hT, ?_⟩
   refine al_gtake (i := 8) rfl (by kernel_rfl) (by kernel_rfl) (by kernel_rfl) rfl rfl rfl (fun _ _ _ h => h) (op_build (is := [1]) (xs := [.tmp 38]) (v := .agg #[.slice none 0 0, .slice s38 2 2]) rfl rfl (fun w => by kernel_rfl)) rfl ?_
   exact K5 _ _ _ _ (by kernel_rfl) (by exact ⟨vs37, vh37, s38, _, rfl, hcur, (by first | exact hl37.trans hl38 | exact hl38.trans hl37), hs37, hh37, hi38, hS⟩) ((Sub.cons rfl (Sub.cons rfl (Sub.cons rfl (Sub.cons rfl (Sub.cons rfl (Sub.cons rfl (Sub.cons rfl Sub.nil))))))))
  ·
   skip
   refine wpOp_of_opkg (i := 7) rfl rfl rfl ha (op_buildSlice (el := 3) (is := [0, 1]) (xs := [.const (.int .i64 (0)), .const (.int .i64 (1))]) (sz := 1) (cs := [.int .i64 0, .int .i64 1]) hS rfl rfl (fun w => by kernel_rfl) rfl (by decide)) ?_
   clear hS
   rintro _ w ⟨s38, rfl, hS⟩
   obtain ⟨G38, hl38, hS38, hi38⟩ := SS.give' ([0, 1] : List Int) [] EInt.mono hS (by decide) ((Rows.ints (l := [0, 1]) (by decide)).mono EInt.mono (fun b o hb => by cases hb)) rfl
   clear hS
   have hS := hS38
   clear hS38
   (try simp only [List.nil_append, List.cons_append] at hS)
   replace hAA := hAA.mono ETriv.mono hl38
   replace hRA := hRA.mono ERule.mono hl38
   replace hAB := hAB.mono ETriv.mono hl38
   replace hRB := hRB.mono ERule.mono hl38
   replace hAC := hAC.mono ETriv.mono hl38
   replace hRC := hRC.mono ERule.mono hl38
   replace hP := hP.mono EStep.mono hl38
   replace hcur := hcur.trans hl38
   (try replace hs37 := hs37.mono EStep.mono hl38)
   (try replace hh37 := hh37.mono EInt.mono hl38)
   have hT := hT.back hS (by first | exact Le.refl _ | assumption) (fun x hx => by try simp only [List.take_succ_cons, List.take_zero, List.mem_cons, List.not_mem_nil, or_false] at hx; (rcases hx with rfl | rfl | rfl | rfl) <;> simp)
   refine ⟨fun _ _ => hT, ?_⟩
   refine al_at ?_ (ha.put (blt_lt rfl) _)
   refine al_gtake (i := 8) rfl (by kernel_rfl) (by kernel_rfl) (by kernel_rfl) rfl rfl rfl (fun _ _ _ h => h) (op_build (is := [1]) (xs := [.tmp 38]) (v := .agg #[.slice none 0 0, .slice s38 2 2]) rfl rfl (fun w => by kernel_rfl)) rfl ?_
   refine al_gstep (i := 6) rfl (by kernel_rfl) rfl rfl rfl (op_call_rt hS cf_13 rfl (fun _ => .inr rfl) (whyMono) (whyRt (just_Why_c _ _ hS.hold ETriv.mono _ _ U2 RB hAB hRB okB) (l := []) (hs := [0, 1]) whyB)) ?_
   clear hS
   rintro v37 w ⟨G37, hl37, hR37, hS⟩
   obtain ⟨vs37, vh37, rfl, hs37, hh37⟩ := hR37
   replace hAA := hAA.mono ETriv.mono hl37
   replace hRA := hRA.mono ERule.mono hl37
   replace hAB := hAB.mono ETriv.mono hl37
   replace hRB := hRB.mono ERule.mono hl37
   replace hAC := hAC.mono ETriv.mono hl37
   replace hRC := hRC.mono ERule.mono hl37
   replace hP := hP.mono EStep.mono hl37
   replace hcur := hcur.trans hl37
   (try replace hi38 := hi38.mono EInt.mono hl37)
   have hT := hT.back hS (by first | exact Le.refl _ | assumption) (fun x hx => by try simp only [List.take_succ_cons, List.take_zero, List.mem_cons, List.not_mem_nil, or_false] at hx; (rcases hx with rfl | rfl | rfl | rfl) <;> simp)
   refine ⟨fun _ _ => hT, ?_⟩
   exact K5 _ _ _ _ (by kernel_rfl) (by exact ⟨vs37, vh37, s38, _, rfl, hcur, (by first | exact hl37.trans hl38 | exact hl38.trans hl37), hs37, hh37, hi38, hS⟩) ((Sub.cons rfl (Sub.cons rfl (Sub.cons rfl (Sub.cons rfl (Sub.cons rfl (Sub.cons rfl (Sub.cons rfl Sub.nil))))))))
 ·
  skip
  have hTo := hT
  clear hS hT
  rintro e w ⟨vs37, vh37, s38, G40, rfl, hcur2, hnew, hs37, hh37, hi38, hS⟩
  have hT := hTo.back hS (by first | exact Le.refl _ | assumption) (fun x hx => by try simp only [List.take_succ_cons, List.take_zero, List.mem_cons, List.not_mem_nil, or_false] at hx; (rcases hx with rfl | rfl | rfl | rfl) <;> simp)
  clear hTo
  clear hcur
  have hcur := hcur2
  clear hcur2
  replace hAA := hAA.mono ETriv.mono hnew
  replace hRA := hRA.mono ERule.mono hnew
  replace hAB := hAB.mono ETriv.mono hnew
  replace hRB := hRB.mono ERule.mono hnew
  replace hAC := hAC.mono ETriv.mono hnew
  replace hRC := hRC.mono ERule.mono hnew
  replace hP := hP.mono EStep.mono hnew
  refine al_gstep (i := 9) rfl (by kernel_rfl) rfl rfl rfl (op_call_sc hS cf_17 rfl (same_t hS.hold hs37 hh37 (RSl.nil _) (hi38))) ?_
  clear hS
  rintro _ w ⟨rfl, hS⟩
  have hT := hT.back hS (by first | exact Le.refl _ | assumption) (fun x hx => by try simp only [List.take_succ_cons, List.take_zero, List.mem_cons, List.not_mem_nil, or_false] at hx; (rcases hx with rfl | rfl | rfl | rfl) <;> simp)
  refine ⟨fun _ _ => hT, ?_⟩
  refine al_take (i := 10) rfl (by kernel_rfl) (by kernel_rfl) (by kernel_rfl) rfl (fun _ _ _ h => h) (op_pick_t rfl rfl) rfl ?_
  refine al_take (i := 11) rfl (by kernel_rfl) (by kernel_rfl) (by kernel_rfl) rfl (fun _ _ _ h => h) (op_move rfl) rfl ?_
  refine al_gload (i := 12) rfl (by kernel_rfl) (by kernel_rfl) (by kernel_rfl) rfl rfl rfl (fun _ _ _ h => h) (by exact op_loadN agg_26 rfl (by rfl) (fun w hw k u hk => (hw.bcell (i := 1) rfl).trans hk)) rfl hT ?_
  refine al_meet (fuel2 := 51) (ds2 := [17, 16, 15, 14, 13, 12, 11, 10, 9, 8, 7, 6, 5, 4, 3, 2, 1, 0]) (fun e w => ∃ vs44 vh44 s47 G49, e = [(1, .pointer (some ⟨bA, 0, none⟩)), (2, .pointer (some ⟨bB, 0, none⟩)), (3, .pointer (some ⟨bC, 0, none⟩)), (4, .pointer (some ⟨bP, 0, none⟩)), (42, .bool true), (44, .agg #[vs44, vh44]), (48, .agg #[.slice s47 1 1, .slice none 0 0])] ∧ Le G29 G49 ∧ Le G40 G49 ∧ RSl 2 EStep G49 vs44 [⟨-1, [0, 1]⟩] ∧ RSl 1 EInt G49 vh44 [] ∧ RSl 2 EStep G49 (.slice s47 1 1) [⟨-1, [0, 1]⟩] ∧ SS G w0 G49 [.blk bP 34 [.slice s29 3 3, .slice none 0 0], .blk bC 26 [.slice oAC 2 cAC, .slice oRC 2 cRC], .blk bB 26 [.slice oAB 2 cAB, .slice oRB 2 cRB], .blk bA 26 [.slice oAA 3 cAA, .slice oRA 2 cRA]] w) (fun K5 => ?_) ?_
  ·
   skip
   refine al_two (i := 13) (j := 14) (by kernel_rfl) (fun a ha => ?_) (fun a ha => ?_)
   ·
    skip
    refine wpOp_of_opkg (i := 13) rfl rfl rfl ha (op_call_rt hS cf_13 rfl (fun _ => .inr rfl) (whyMono) (whyRt (just_Why_c _ _ hS.hold ETriv.mono _ _ U2 RC hAC hRC okC) (l := [⟨-1, [0, 1]⟩]) (hs := []) whyC)) ?_
    clear hS
    rintro v44 w ⟨G44, hl44, hR44, hS⟩
    obtain ⟨vs44, vh44, rfl, hs44, hh44⟩ := hR44
    replace hAA := hAA.mono ETriv.mono hl44
    replace hRA := hRA.mono ERule.mono hl44
    replace hAB := hAB.mono ETriv.mono hl44
    replace hRB := hRB.mono ERule.mono hl44
    replace hAC := hAC.mono ETriv.mono hl44
    replace hRC := hRC.mono ERule.mono hl44
    replace hP := hP.mono EStep.mono hl44
    replace hcur := hcur.trans hl44
    (try replace hi45 := hi45.mono EInt.mono hl44)
    (try replace hst47 := hst47.mono EStep.mono hl44)
    have hT := hT.back hS (by first | exact Le.refl _ | assumption) (fun x hx => by try simp only [List.take_succ_cons, List.take_zero, List.mem_cons, List.not_mem_nil, or_false] at hx; (rcases hx with rfl | rfl | rfl | rfl) <;> simp)
    refine ⟨fun _ _ => hT, ?_⟩
    refine al_at ?_ (ha.put (blt_lt rfl) _)
    refine al_gstep (i := 14) rfl (by kernel_rfl) rfl rfl rfl (op_buildSlice (el := 3) (is := [0, 1]) (xs := [.const (.int .i64 (0)), .const (.int .i64 (1))]) (sz := 1) (cs := [.int .i64 0, .int .i64 1]) hS rfl rfl (fun w => by kernel_rfl) rfl (by decide)) ?_
    clear hS
    rintro _ w ⟨s45, rfl, hS⟩
    obtain ⟨G45, hl45, hS45, hi45⟩ := SS.give' ([0, 1] : List Int) [] EInt.mono hS (by decide) ((Rows.ints (l := [0, 1]) (by decide)).mono EInt.mono (fun b o hb => by cases hb)) rfl
    clear hS
    have hS := hS45
    clear hS45
    (try simp only [List.nil_append, List.cons_append] at hS)
    replace hAA := hAA.mono ETriv.mono hl45
    replace hRA := hRA.mono ERule.mono hl45
    replace hAB := hAB.mono ETriv.mono hl45
    replace hRB := hRB.mono ERule.mono hl45
    replace hAC := hAC.mono ETriv.mono hl45
    replace hRC := hRC.mono ERule.mono hl45
    replace hP := hP.mono EStep.mono hl45
    replace hcur := hcur.trans hl45
    (try replace hs44 := hs44.mono EStep.mono hl45)
    (try replace hh44 := hh44.mono EInt.mono hl45)
    have hT := hT.back hS (by first | exact Le.refl _ | assumption) (fun x hx => by try simp only [List.take_succ_cons, List.take_zero, List.mem_cons, List.not_mem_nil, or_false] at hx; (rcases hx with rfl | rfl | rfl | rfl) <;> simp)
    refine ⟨fun _ _ => hT, ?_⟩
    refine al_gtake (i := 15) rfl (by kernel_rfl) (by kernel_rfl) (by kernel_rfl) rfl rfl rfl (fun _ _ _ h => h) (op_build (is := [0, 1]) (xs := [.const (.int .i64 (-1)), .tmp 45]) (v := .agg #[.int .i64 (-1), .slice s45 2 2]) rfl rfl (fun w => by kernel_rfl)) rfl ?_
    refine al_gstep (i := 16) rfl (by kernel_rfl) rfl rfl rfl (op_buildSlice (el := 37) (is := [0]) (xs := [.tmp 46]) (sz := 2) (cs := [.int .i64 (-1), .slice s45 2 2]) hS rfl rfl (fun w => by kernel_rfl) rfl (by decide)) ?_
    clear hS
    rintro _ w ⟨s47, rfl, hS⟩
    obtain ⟨G47, hl47, hS47, hst47⟩ := SS.give' [(⟨-1, [0, 1]⟩ : Step)] [] EStep.mono hS (by decide) (steps1 (estep (x := (⟨-1, [0, 1]⟩ : Step)) (hi45) (by decide))) rfl
    clear hS
    have hS := hS47
    clear hS47
    (try simp only [List.nil_append, List.cons_append] at hS)
    replace hAA := hAA.mono ETriv.mono hl47
    replace hRA := hRA.mono ERule.mono hl47
    replace hAB := hAB.mono ETriv.mono hl47
    replace hRB := hRB.mono ERule.mono hl47
    replace hAC := hAC.mono ETriv.mono hl47
    replace hRC := hRC.mono ERule.mono hl47
    replace hP := hP.mono EStep.mono hl47
    replace hcur := hcur.trans hl47
    (try replace hs44 := hs44.mono EStep.mono hl47)
    (try replace hh44 := hh44.mono EInt.mono hl47)
    have hT := hT.back hS (by first | exact Le.refl _ | assumption) (fun x hx => by try simp only [List.take_succ_cons, List.take_zero, List.mem_cons, List.not_mem_nil, or_false] at hx; (rcases hx with rfl | rfl | rfl | rfl) <;> simp)
    refine ⟨fun _ _ => hT, ?_⟩
    refine al_gtake (i := 17) rfl (by kernel_rfl) (by kernel_rfl) (by kernel_rfl) rfl rfl rfl (fun _ _ _ h => h) (op_build (is := [0]) (xs := [.tmp 47]) (v := .agg #[.slice s47 1 1, .slice none 0 0]) rfl rfl (fun w => by kernel_rfl)) rfl ?_
    exact K5 _ _ _ _ (by kernel_rfl) (by exact ⟨vs44, vh44, s47, _, rfl, hcur, (by first | exact (hl44.trans hl45).trans hl47 | exact (hl45.trans hl44).trans hl47 | exact (hl45.trans hl47).trans hl44), hs44, hh44, hst47, hS⟩) ((Sub.cons rfl (Sub.cons rfl (Sub.cons rfl (Sub.cons rfl (Sub.cons rfl (Sub.cons rfl (Sub.cons rfl Sub.nil))))))))
   ·
    skip
    refine wpOp_of_opkg (i := 14) rfl rfl rfl ha (op_buildSlice (el := 3) (is := [0, 1]) (xs := [.const (.int .i64 (0)), .const (.int .i64 (1))]) (sz := 1) (cs := [.int .i64 0, .int .i64 1]) hS rfl rfl (fun w => by kernel_rfl) rfl (by decide)) ?_
    clear hS
    rintro _ w ⟨s45, rfl, hS⟩
    obtain ⟨G45, hl45, hS45, hi45⟩ := SS.give' ([0, 1] : List Int) [] EInt.mono hS (by decide) ((Rows.ints (l := [0, 1]) (by decide)).mono EInt.mono (fun b o hb => by cases hb)) rfl
    clear hS
    have hS := hS45
    clear hS45
    (try simp only [List.nil_append, List.cons_append] at hS)
    replace hAA := hAA.mono ETriv.mono hl45
    replace hRA := hRA.mono ERule.mono hl45
    replace hAB := hAB.mono ETriv.mono hl45
    replace hRB := hRB.mono ERule.mono hl45
    replace hAC := hAC.mono ETriv.mono hl45
    replace hRC := hRC.mono ERule.mono hl45
    replace hP := hP.mono EStep.mono hl45
    replace hcur := hcur.trans hl45
    (try replace hs44 := hs44.mono EStep.mono hl45)
    (try replace hh44 := hh44.mono EInt.mono hl45)
    have hT := hT.back hS (by first | exact Le.refl _ | assumption) (fun x hx => by try simp only [List.take_succ_cons, List.take_zero, List.mem_cons, List.not_mem_nil, or_false] at hx; (rcases hx with rfl | rfl | rfl | rfl) <;> simp)
    refine ⟨fun _ _ => hT, ?_⟩
    refine al_at ?_ (ha.put (blt_lt rfl) _)
    refine al_gtake (i := 15) rfl (by kernel_rfl) (by kernel_rfl) (by kernel_rfl) rfl rfl rfl (fun _ _ _ h => h) (op_build (is := [0, 1]) (xs := [.const (.int .i64 (-1)), .tmp 45]) (v := .agg #[.int .i64 (-1), .slice s45 2 2]) rfl rfl (fun w => by kernel_rfl)) rfl ?_
    refine al_two (i := 13) (j := 16) (by kernel_rfl) (fun a ha => ?_) (fun a ha => ?_)
    ·
     skip
     refine wpOp_of_opkg (i := 13) rfl rfl rfl ha (op_call_rt hS cf_13 rfl (fun _ => .inr rfl) (whyMono) (whyRt (just_Why_c _ _ hS.hold ETriv.mono _ _ U2 RC hAC hRC okC) (l := [⟨-1, [0, 1]⟩]) (hs := []) whyC)) ?_
     clear hS
     rintro v44 w ⟨G44, hl44, hR44, hS⟩
     obtain ⟨vs44, vh44, rfl, hs44, hh44⟩ := hR44
     replace hAA := hAA.mono ETriv.mono hl44
     replace hRA := hRA.mono ERule.mono hl44
     replace hAB := hAB.mono ETriv.mono hl44
     replace hRB := hRB.mono ERule.mono hl44
     replace hAC := hAC.mono ETriv.mono hl44
     replace hRC := hRC.mono ERule.mono hl44
     replace hP := hP.mono EStep.mono hl44
     replace hcur := hcur.trans hl44
     (try replace hi45 := hi45.mono EInt.mono hl44)
     (try replace hst47 := hst47.mono EStep.mono hl44)
     have hT := hT.back hS (by first | exact Le.refl _ | assumption) (fun x hx => by try simp only [List.take_succ_cons, List.take_zero, List.mem_cons, List.not_mem_nil, or_false] at hx; (rcases hx with rfl | rfl | rfl | rfl) <;> simp)
     refine ⟨fun _ _ => hT, ?_⟩
     refine al_at ?_ (ha.put (blt_lt rfl) _)
     refine al_gstep (i := 16) rfl (by kernel_rfl) rfl rfl rfl (op_buildSlice (el := 37) (is := [0]) (xs := [.tmp 46]) (sz := 2) (cs := [.int .i64 (-1), .slice s45 2 2]) hS rfl rfl (fun w => by kernel_rfl) rfl (by decide)) ?_
     clear hS
     rintro _ w ⟨s47, rfl, hS⟩
     obtain ⟨G47, hl47, hS47, hst47⟩ := SS.give' [(⟨-1, [0, 1]⟩ : Step)] [] EStep.mono hS (by decide) (steps1 (estep (x := (⟨-1, [0, 1]⟩ : Step)) (hi45) (by decide))) rfl
     clear hS
     have hS := hS47
     clear hS47
     (try simp only [List.nil_append, List.cons_append] at hS)
     replace hAA := hAA.mono ETriv.mono hl47
     replace hRA := hRA.mono ERule.mono hl47
     replace hAB := hAB.mono ETriv.mono hl47
     replace hRB := hRB.mono ERule.mono hl47
     replace hAC := hAC.mono ETriv.mono hl47
     replace hRC := hRC.mono ERule.mono hl47
     replace hP := hP.mono EStep.mono hl47
     replace hcur := hcur.trans hl47
     (try replace hs44 := hs44.mono EStep.mono hl47)
     (try replace hh44 := hh44.mono EInt.mono hl47)
     have hT := hT.back hS (by first | exact Le.refl _ | assumption) (fun x hx => by try simp only [List.take_succ_cons, List.take_zero, List.mem_cons, List.not_mem_nil, or_false] at hx; (rcases hx with rfl | rfl | rfl | rfl) <;> simp)
     refine ⟨fun _ _ => hT, ?_⟩
     refine al_gtake (i := 17) rfl (by kernel_rfl) (by kernel_rfl) (by kernel_rfl) rfl rfl rfl (fun _ _ _ h => h) (op_build (is := [0]) (xs := [.tmp 47]) (v := .agg #[.slice s47 1 1, .slice none 0 0]) rfl rfl (fun w => by kernel_rfl)) rfl ?_
     exact K5 _ _ _ _ (by kernel_rfl) (by exact ⟨vs44, vh44, s47, _, rfl, hcur, (by first | exact (hl44.trans hl45).trans hl47 | exact (hl45.trans hl44).trans hl47 | exact (hl45.trans hl47).trans hl44), hs44, hh44, hst47, hS⟩) ((Sub.cons rfl (Sub.cons rfl (Sub.cons rfl (Sub.cons rfl (Sub.cons rfl (Sub.cons rfl (Sub.cons rfl Sub.nil))))))))
    ·
     skip
     refine wpOp_of_opkg (i := 16) rfl rfl rfl ha (op_buildSlice (el := 37) (is := [0]) (xs := [.tmp 46]) (sz := 2) (cs := [.int .i64 (-1), .slice s45 2 2]) hS rfl rfl (fun w => by kernel_rfl) rfl (by decide)) ?_
     clear hS
     rintro _ w ⟨s47, rfl, hS⟩
     obtain ⟨G47, hl47, hS47, hst47⟩ := SS.give' [(⟨-1, [0, 1]⟩ : Step)] [] EStep.mono hS (by decide) (steps1 (estep (x := (⟨-1, [0, 1]⟩ : Step)) (hi45) (by decide))) rfl
     clear hS
     have hS := hS47
     clear hS47
     (try simp only [List.nil_append, List.cons_append] at hS)
     replace hAA := hAA.mono ETriv.mono hl47
     replace hRA := hRA.mono ERule.mono hl47
     replace hAB := hAB.mono ETriv.mono hl47
     replace hRB := hRB.mono ERule.mono hl47
     replace hAC := hAC.mono ETriv.mono hl47
     replace hRC := hRC.mono ERule.mono hl47
     replace hP := hP.mono EStep.mono hl47
     replace hcur := hcur.trans hl47
     (try replace hs44 := hs44.mono EStep.mono hl47)
     (try replace hh44 := hh44.mono EInt.mono hl47)
     have hT := hT.back hS (by first | exact Le.refl _ | assumption) (fun x hx => by try simp only [List.take_succ_cons, List.take_zero, List.mem_cons, List.not_mem_nil, or_false] at hx; (rcases hx with rfl | rfl | rfl | rfl) <;> simp)
     refine ⟨fun _ _ => hT, ?_⟩
     refine al_at ?_ (ha.put (blt_lt rfl) _)
     refine al_gtake (i := 17) rfl (by kernel_rfl) (by kernel_rfl) (by kernel_rfl) rfl rfl rfl (fun _ _ _ h => h) (op_build (is := [0]) (xs := [.tmp 47]) (v := .agg #[.slice s47 1 1, .slice none 0 0]) rfl rfl (fun w => by kernel_rfl)) rfl ?_
     refine al_gstep (i := 13) rfl (by kernel_rfl) rfl rfl rfl (op_call_rt hS cf_13 rfl (fun _ => .inr rfl) (whyMono) (whyRt (just_Why_c _ _ hS.hold ETriv.mono _ _ U2 RC hAC hRC okC) (l := [⟨-1, [0, 1]⟩]) (hs := []) whyC)) ?_
     clear hS
     rintro v44 w ⟨G44, hl44, hR44, hS⟩
     obtain ⟨vs44, vh44, rfl, hs44, hh44⟩ := hR44
     replace hAA := hAA.mono ETriv.mono hl44
     replace hRA := hRA.mono ERule.mono hl44
     replace hAB := hAB.mono ETriv.mono hl44
     replace hRB := hRB.mono ERule.mono hl44
     replace hAC := hAC.mono ETriv.mono hl44
     replace hRC := hRC.mono ERule.mono hl44
     replace hP := hP.mono EStep.mono hl44
     replace hcur := hcur.trans hl44
     (try replace hi45 := hi45.mono EInt.mono hl44)
     (try replace hst47 := hst47.mono EStep.mono hl44)
     have hT := hT.back hS (by first | exact Le.refl _ | assumption) (fun x hx => by try simp only [List.take_succ_cons, List.take_zero, List.mem_cons, List.not_mem_nil, or_false] at hx; (rcases hx with rfl | rfl | rfl | rfl) <;> simp)
     refine ⟨fun _ _ => hT, ?_⟩
     exact K5 _ _ _ _ (by kernel_rfl) (by exact ⟨vs44, vh44, s47, _, rfl, hcur, (by first | exact (hl44.trans hl45).trans hl47 | exact (hl45.trans hl44).trans hl47 | exact (hl45.trans hl47).trans hl44), hs44, hh44, hst47, hS⟩) ((Sub.cons rfl (Sub.cons rfl (Sub.cons rfl (Sub.cons rfl (Sub.cons rfl (Sub.cons rfl (Sub.cons rfl Sub.nil))))))))
  ·
   skip
   have hTo := hT
   clear hS hT
   rintro e w ⟨vs44, vh44, s47, G49, rfl, hcur2, hnew, hs44, hh44, hst47, hS⟩
   have hT := hTo.back hS (by first | exact Le.refl _ | assumption) (fun x hx => by try simp only [List.take_succ_cons, List.take_zero, List.mem_cons, List.not_mem_nil, or_false] at hx; (rcases hx with rfl | rfl | rfl | rfl) <;> simp)
   clear hTo
   clear hcur
   have hcur := hcur2
   clear hcur2
   replace hAA := hAA.mono ETriv.mono hnew
   replace hRA := hRA.mono ERule.mono hnew
   replace hAB := hAB.mono ETriv.mono hnew
   replace hRB := hRB.mono ERule.mono hnew
   replace hAC := hAC.mono ETriv.mono hnew
   replace hRC := hRC.mono ERule.mono hnew
   replace hP := hP.mono EStep.mono hnew
   refine al_gstep (i := 18) rfl (by kernel_rfl) rfl rfl rfl (op_call_sc hS cf_17 rfl (same_t hS.hold hs44 hh44 (hst47) (RSl.nil _))) ?_
   clear hS
   rintro _ w ⟨rfl, hS⟩
   have hT := hT.back hS (by first | exact Le.refl _ | assumption) (fun x hx => by try simp only [List.take_succ_cons, List.take_zero, List.mem_cons, List.not_mem_nil, or_false] at hx; (rcases hx with rfl | rfl | rfl | rfl) <;> simp)
   refine ⟨fun _ _ => hT, ?_⟩
   refine al_take (i := 19) rfl (by kernel_rfl) (by kernel_rfl) (by kernel_rfl) rfl (fun _ _ _ h => h) (op_pick_t rfl rfl) rfl ?_
   refine al_take (i := 20) rfl (by kernel_rfl) (by kernel_rfl) (by kernel_rfl) rfl (fun _ _ _ h => h) (op_move rfl) rfl ?_
   refine al_gload (i := 21) rfl (by kernel_rfl) (by kernel_rfl) (by kernel_rfl) rfl rfl rfl (fun _ _ _ h => h) (by exact op_loadN agg_26 rfl (by rfl) (fun w hw k u hk => (hw.bcell (i := 3) rfl).trans hk)) rfl hT ?_
   refine al_gload (i := 22) rfl (by kernel_rfl) (by kernel_rfl) (by kernel_rfl) rfl rfl rfl (fun _ _ _ h => h) (by exact op_loadN agg_34 rfl (by rfl) (fun w hw k u hk => (hw.bcell (i := 0) rfl).trans hk)) rfl hT ?_
   refine al_meet (fuel2 := 44) (ds2 := [24, 23, 22, 21, 20, 19, 18, 17, 16, 15, 14, 13, 12, 11, 10, 9, 8, 7, 6, 5, 4, 3, 2, 1, 0]) (fun e w => ∃ v54 s55 G56, e = [(1, .pointer (some ⟨bA, 0, none⟩)), (2, .pointer (some ⟨bB, 0, none⟩)), (3, .pointer (some ⟨bC, 0, none⟩)), (4, .pointer (some ⟨bP, 0, none⟩)), (51, .bool true), (54, v54), (55, .slice s55 3 3)] ∧ Le G29 G56 ∧ Le G49 G56 ∧ RSl 1 EInt G56 v54 [2, 2, 0] ∧ RSl 1 EInt G56 (.slice s55 3 3) [2, 2, 0] ∧ SS G w0 G56 [.blk bP 34 [.slice s29 3 3, .slice none 0 0], .blk bC 26 [.slice oAC 2 cAC, .slice oRC 2 cRC], .blk bB 26 [.slice oAB 2 cAB, .slice oRB 2 cRB], .blk bA 26 [.slice oAA 3 cAA, .slice oRA 2 cRA]] w) (fun K5 => ?_) ?_
   ·
    skip
    refine al_two (i := 23) (j := 24) (by kernel_rfl) (fun a ha => ?_) (fun a ha => ?_)
    ·
     skip
     refine wpOp_of_opkg (i := 23) rfl rfl rfl ha (op_call_fr hS cf_19 rfl (knownRt (just_Known_c _ _ hS.hold ETriv.mono _ _ U3 RA hAA hRA okA _ _ PA hP ⟨_, _, _, rfl⟩) knownA)) ?_
     clear hS
     rintro v54 w ⟨F54, G54, hR54, hF54, hf54, hl54, hS⟩
     replace hR54 := hR54.mono EInt.mono hf54
     replace hAA := hAA.mono ETriv.mono hl54
     replace hRA := hRA.mono ERule.mono hl54
     replace hAB := hAB.mono ETriv.mono hl54
     replace hRB := hRB.mono ERule.mono hl54
     replace hAC := hAC.mono ETriv.mono hl54
     replace hRC := hRC.mono ERule.mono hl54
     replace hP := hP.mono EStep.mono hl54
     replace hcur := hcur.trans hl54
     (try replace hi55 := hi55.mono EInt.mono hl54)
     have hT := hT.back hS (by first | exact Le.refl _ | assumption) (fun x hx => by try simp only [List.take_succ_cons, List.take_zero, List.mem_cons, List.not_mem_nil, or_false] at hx; (rcases hx with rfl | rfl | rfl | rfl) <;> simp)
     refine ⟨fun _ _ => hT, ?_⟩
     refine al_at ?_ (ha.put (blt_lt rfl) _)
     refine al_gstep (i := 24) rfl (by kernel_rfl) rfl rfl rfl (op_buildSlice (el := 3) (is := [0, 1, 2]) (xs := [.const (.int .i64 (2)), .const (.int .i64 (2)), .const (.int .i64 (0))]) (sz := 1) (cs := [.int .i64 2, .int .i64 2, .int .i64 0]) hS rfl rfl (fun w => by kernel_rfl) rfl (by decide)) ?_
     clear hS
     rintro _ w ⟨s55, rfl, hS⟩
     obtain ⟨G55, hl55, hS55, hi55⟩ := SS.give' ([2, 2, 0] : List Int) [] EInt.mono hS (by decide) ((Rows.ints (l := [2, 2, 0]) (by decide)).mono EInt.mono (fun b o hb => by cases hb)) rfl
     clear hS
     have hS := hS55
     clear hS55
     (try simp only [List.nil_append, List.cons_append] at hS)
     replace hAA := hAA.mono ETriv.mono hl55
     replace hRA := hRA.mono ERule.mono hl55
     replace hAB := hAB.mono ETriv.mono hl55
     replace hRB := hRB.mono ERule.mono hl55
     replace hAC := hAC.mono ETriv.mono hl55
     replace hRC := hRC.mono ERule.mono hl55
     replace hP := hP.mono EStep.mono hl55
     replace hcur := hcur.trans hl55
     (try replace hR54 := hR54.mono EInt.mono hl55)
     have hT := hT.back hS (by first | exact Le.refl _ | assumption) (fun x hx => by try simp only [List.take_succ_cons, List.take_zero, List.mem_cons, List.not_mem_nil, or_false] at hx; (rcases hx with rfl | rfl | rfl | rfl) <;> simp)
     refine ⟨fun _ _ => hT, ?_⟩
     exact K5 _ _ _ _ (by kernel_rfl) (by exact ⟨v54, s55, _, rfl, hcur, (by first | exact hl54.trans hl55 | exact hl55.trans hl54), hR54, hi55, hS⟩) ((Sub.cons rfl (Sub.cons rfl (Sub.cons rfl (Sub.cons rfl (Sub.cons rfl (Sub.cons rfl (Sub.cons rfl Sub.nil))))))))
    ·
     skip
     refine wpOp_of_opkg (i := 24) rfl rfl rfl ha (op_buildSlice (el := 3) (is := [0, 1, 2]) (xs := [.const (.int .i64 (2)), .const (.int .i64 (2)), .const (.int .i64 (0))]) (sz := 1) (cs := [.int .i64 2, .int .i64 2, .int .i64 0]) hS rfl rfl (fun w => by kernel_rfl) rfl (by decide)) ?_
     clear hS
     rintro _ w ⟨s55, rfl, hS⟩
     obtain ⟨G55, hl55, hS55, hi55⟩ := SS.give' ([2, 2, 0] : List Int) [] EInt.mono hS (by decide) ((Rows.ints (l := [2, 2, 0]) (by decide)).mono EInt.mono (fun b o hb => by cases hb)) rfl
     clear hS
     have hS := hS55
     clear hS55
     (try simp only [List.nil_append, List.cons_append] at hS)
     replace hAA := hAA.mono ETriv.mono hl55
     replace hRA := hRA.mono ERule.mono hl55
     replace hAB := hAB.mono ETriv.mono hl55
     replace hRB := hRB.mono ERule.mono hl55
     replace hAC := hAC.mono ETriv.mono hl55
     replace hRC := hRC.mono ERule.mono hl55
     replace hP := hP.mono EStep.mono hl55
     replace hcur := hcur.trans hl55
     (try replace hR54 := hR54.mono EInt.mono hl55)
     have hT := hT.back hS (by first | exact Le.refl _ | assumption) (fun x hx => by try simp only [List.take_succ_cons, List.take_zero, List.mem_cons, List.not_mem_nil, or_false] at hx; (rcases hx with rfl | rfl | rfl | rfl) <;> simp)
     refine ⟨fun _ _ => hT, ?_⟩
     refine al_at ?_ (ha.put (blt_lt rfl) _)
     refine al_gstep (i := 23) rfl (by kernel_rfl) rfl rfl rfl (op_call_fr hS cf_19 rfl (knownRt (just_Known_c _ _ hS.hold ETriv.mono _ _ U3 RA hAA hRA okA _ _ PA hP ⟨_, _, _, rfl⟩) knownA)) ?_
     clear hS
     rintro v54 w ⟨F54, G54, hR54, hF54, hf54, hl54, hS⟩
     replace hR54 := hR54.mono EInt.mono hf54
     replace hAA := hAA.mono ETriv.mono hl54
     replace hRA := hRA.mono ERule.mono hl54
     replace hAB := hAB.mono ETriv.mono hl54
     replace hRB := hRB.mono ERule.mono hl54
     replace hAC := hAC.mono ETriv.mono hl54
     replace hRC := hRC.mono ERule.mono hl54
     replace hP := hP.mono EStep.mono hl54
     replace hcur := hcur.trans hl54
     (try replace hi55 := hi55.mono EInt.mono hl54)
     have hT := hT.back hS (by first | exact Le.refl _ | assumption) (fun x hx => by try simp only [List.take_succ_cons, List.take_zero, List.mem_cons, List.not_mem_nil, or_false] at hx; (rcases hx with rfl | rfl | rfl | rfl) <;> simp)
     refine ⟨fun _ _ => hT, ?_⟩
     exact K5 _ _ _ _ (by kernel_rfl) (by exact ⟨v54, s55, _, rfl, hcur, (by first | exact hl54.trans hl55 | exact hl55.trans hl54), hR54, hi55, hS⟩) ((Sub.cons rfl (Sub.cons rfl (Sub.cons rfl (Sub.cons rfl (Sub.cons rfl (Sub.cons rfl (Sub.cons rfl Sub.nil))))))))
   ·
    skip
    have hTo := hT
    clear hS hT
    rintro e w ⟨v54, s55, G56, rfl, hcur2, hnew, hR54, hi55, hS⟩
    have hT := hTo.back hS (by first | exact Le.refl _ | assumption) (fun x hx => by try simp only [List.take_succ_cons, List.take_zero, List.mem_cons, List.not_mem_nil, or_false] at hx; (rcases hx with rfl | rfl | rfl | rfl) <;> simp)
    clear hTo
    clear hcur
    have hcur := hcur2
    clear hcur2
    replace hAA := hAA.mono ETriv.mono hnew
    replace hRA := hRA.mono ERule.mono hnew
    replace hAB := hAB.mono ETriv.mono hnew
    replace hRB := hRB.mono ERule.mono hnew
    replace hAC := hAC.mono ETriv.mono hnew
    replace hRC := hRC.mono ERule.mono hnew
    replace hP := hP.mono EStep.mono hnew
    refine al_gstep (i := 25) rfl (by kernel_rfl) rfl rfl rfl (op_call_sc hS cf_18 rfl (ints_t hS.hold hR54 hi55)) ?_
    clear hS
    rintro _ w ⟨rfl, hS⟩
    have hT := hT.back hS (by first | exact Le.refl _ | assumption) (fun x hx => by try simp only [List.take_succ_cons, List.take_zero, List.mem_cons, List.not_mem_nil, or_false] at hx; (rcases hx with rfl | rfl | rfl | rfl) <;> simp)
    refine ⟨fun _ _ => hT, ?_⟩
    refine al_take (i := 26) rfl (by kernel_rfl) (by kernel_rfl) (by kernel_rfl) rfl (fun _ _ _ h => h) (op_pick_t rfl rfl) rfl ?_
    refine al_take (i := 27) rfl (by kernel_rfl) (by kernel_rfl) (by kernel_rfl) rfl (fun _ _ _ h => h) (op_move rfl) rfl ?_
    refine al_gload (i := 28) rfl (by kernel_rfl) (by kernel_rfl) (by kernel_rfl) rfl rfl rfl (fun _ _ _ h => h) (by exact op_loadN agg_26 rfl (by rfl) (fun w hw k u hk => (hw.bcell (i := 2) rfl).trans hk)) rfl hT ?_
    refine al_gtake (i := 29) rfl (by kernel_rfl) (by kernel_rfl) (by kernel_rfl) rfl rfl rfl (fun _ _ _ h => h) (op_build (is := []) (xs := []) (v := .agg #[.slice none 0 0, .slice none 0 0]) rfl rfl (fun w => by kernel_rfl)) rfl ?_
    refine al_meet (fuel2 := 37) (ds2 := [31, 30, 29, 28, 27, 26, 25, 24, 23, 22, 21, 20, 19, 18, 17, 16, 15, 14, 13, 12, 11, 10, 9, 8, 7, 6, 5, 4, 3, 2, 1, 0]) (fun e w => ∃ v61 s62 G63, e = [(1, .pointer (some ⟨bA, 0, none⟩)), (2, .pointer (some ⟨bB, 0, none⟩)), (3, .pointer (some ⟨bC, 0, none⟩)), (4, .pointer (some ⟨bP, 0, none⟩)), (58, .bool true), (61, v61), (62, .slice s62 2 2)] ∧ Le G29 G63 ∧ Le G56 G63 ∧ RSl 1 EInt G63 v61 [1, 1] ∧ RSl 1 EInt G63 (.slice s62 2 2) [1, 1] ∧ SS G w0 G63 [.blk bP 34 [.slice s29 3 3, .slice none 0 0], .blk bC 26 [.slice oAC 2 cAC, .slice oRC 2 cRC], .blk bB 26 [.slice oAB 2 cAB, .slice oRB 2 cRB], .blk bA 26 [.slice oAA 3 cAA, .slice oRA 2 cRA]] w) (fun K5 => ?_) ?_
    ·
     skip
     refine al_two (i := 30) (j := 31) (by kernel_rfl) (fun a ha => ?_) (fun a ha => ?_)
     ·
      skip
      refine wpOp_of_opkg (i := 30) rfl rfl rfl ha (op_call_fr hS cf_19 rfl (knownRt (just_Known_c _ _ hS.hold ETriv.mono _ _ U2 RB hAB hRB okB _ _ [] (RSl.nil _) ⟨_, _, _, rfl⟩) knownB)) ?_
      clear hS
      rintro v61 w ⟨F61, G61, hR61, hF61, hf61, hl61, hS⟩
      replace hR61 := hR61.mono EInt.mono hf61
      replace hAA := hAA.mono ETriv.mono hl61
      replace hRA := hRA.mono ERule.mono hl61
      replace hAB := hAB.mono ETriv.mono hl61
      replace hRB := hRB.mono ERule.mono hl61
      replace hAC := hAC.mono ETriv.mono hl61
      replace hRC := hRC.mono ERule.mono hl61
      replace hP := hP.mono EStep.mono hl61
      replace hcur := hcur.trans hl61
      (try replace hi62 := hi62.mono EInt.mono hl61)
      have hT := hT.back hS (by first | exact Le.refl _ | assumption) (fun x hx => by try simp only [List.take_succ_cons, List.take_zero, List.mem_cons, List.not_mem_nil, or_false] at hx; (rcases hx with rfl | rfl | rfl | rfl) <;> simp)
      refine ⟨fun _ _ => hT, ?_⟩
      refine al_at ?_ (ha.put (blt_lt rfl) _)
      refine al_gstep (i := 31) rfl (by kernel_rfl) rfl rfl rfl (op_buildSlice (el := 3) (is := [0, 1]) (xs := [.const (.int .i64 (1)), .const (.int .i64 (1))]) (sz := 1) (cs := [.int .i64 1, .int .i64 1]) hS rfl rfl (fun w => by kernel_rfl) rfl (by decide)) ?_
      clear hS
      rintro _ w ⟨s62, rfl, hS⟩
      obtain ⟨G62, hl62, hS62, hi62⟩ := SS.give' ([1, 1] : List Int) [] EInt.mono hS (by decide) ((Rows.ints (l := [1, 1]) (by decide)).mono EInt.mono (fun b o hb => by cases hb)) rfl
      clear hS
      have hS := hS62
      clear hS62
      (try simp only [List.nil_append, List.cons_append] at hS)
      replace hAA := hAA.mono ETriv.mono hl62
      replace hRA := hRA.mono ERule.mono hl62
      replace hAB := hAB.mono ETriv.mono hl62
      replace hRB := hRB.mono ERule.mono hl62
      replace hAC := hAC.mono ETriv.mono hl62
      replace hRC := hRC.mono ERule.mono hl62
      replace hP := hP.mono EStep.mono hl62
      replace hcur := hcur.trans hl62
      (try replace hR61 := hR61.mono EInt.mono hl62)
      have hT := hT.back hS (by first | exact Le.refl _ | assumption) (fun x hx => by try simp only [List.take_succ_cons, List.take_zero, List.mem_cons, List.not_mem_nil, or_false] at hx; (rcases hx with rfl | rfl | rfl | rfl) <;> simp)
      refine ⟨fun _ _ => hT, ?_⟩
      exact K5 _ _ _ _ (by kernel_rfl) (by exact ⟨v61, s62, _, rfl, hcur, (by first | exact hl61.trans hl62 | exact hl62.trans hl61), hR61, hi62, hS⟩) ((Sub.cons rfl (Sub.cons rfl (Sub.cons rfl (Sub.cons rfl (Sub.cons rfl (Sub.cons rfl (Sub.cons rfl Sub.nil))))))))
     ·
      skip
      refine wpOp_of_opkg (i := 31) rfl rfl rfl ha (op_buildSlice (el := 3) (is := [0, 1]) (xs := [.const (.int .i64 (1)), .const (.int .i64 (1))]) (sz := 1) (cs := [.int .i64 1, .int .i64 1]) hS rfl rfl (fun w => by kernel_rfl) rfl (by decide)) ?_
      clear hS
      rintro _ w ⟨s62, rfl, hS⟩
      obtain ⟨G62, hl62, hS62, hi62⟩ := SS.give' ([1, 1] : List Int) [] EInt.mono hS (by decide) ((Rows.ints (l := [1, 1]) (by decide)).mono EInt.mono (fun b o hb => by cases hb)) rfl
      clear hS
      have hS := hS62
      clear hS62
      (try simp only [List.nil_append, List.cons_append] at hS)
      replace hAA := hAA.mono ETriv.mono hl62
      replace hRA := hRA.mono ERule.mono hl62
      replace hAB := hAB.mono ETriv.mono hl62
      replace hRB := hRB.mono ERule.mono hl62
      replace hAC := hAC.mono ETriv.mono hl62
      replace hRC := hRC.mono ERule.mono hl62
      replace hP := hP.mono EStep.mono hl62
      replace hcur := hcur.trans hl62
      (try replace hR61 := hR61.mono EInt.mono hl62)
      have hT := hT.back hS (by first | exact Le.refl _ | assumption) (fun x hx => by try simp only [List.take_succ_cons, List.take_zero, List.mem_cons, List.not_mem_nil, or_false] at hx; (rcases hx with rfl | rfl | rfl | rfl) <;> simp)
      refine ⟨fun _ _ => hT, ?_⟩
      refine al_at ?_ (ha.put (blt_lt rfl) _)
      refine al_gstep (i := 30) rfl (by kernel_rfl) rfl rfl rfl (op_call_fr hS cf_19 rfl (knownRt (just_Known_c _ _ hS.hold ETriv.mono _ _ U2 RB hAB hRB okB _ _ [] (RSl.nil _) ⟨_, _, _, rfl⟩) knownB)) ?_
      clear hS
      rintro v61 w ⟨F61, G61, hR61, hF61, hf61, hl61, hS⟩
      replace hR61 := hR61.mono EInt.mono hf61
      replace hAA := hAA.mono ETriv.mono hl61
      replace hRA := hRA.mono ERule.mono hl61
      replace hAB := hAB.mono ETriv.mono hl61
      replace hRB := hRB.mono ERule.mono hl61
      replace hAC := hAC.mono ETriv.mono hl61
      replace hRC := hRC.mono ERule.mono hl61
      replace hP := hP.mono EStep.mono hl61
      replace hcur := hcur.trans hl61
      (try replace hi62 := hi62.mono EInt.mono hl61)
      have hT := hT.back hS (by first | exact Le.refl _ | assumption) (fun x hx => by try simp only [List.take_succ_cons, List.take_zero, List.mem_cons, List.not_mem_nil, or_false] at hx; (rcases hx with rfl | rfl | rfl | rfl) <;> simp)
      refine ⟨fun _ _ => hT, ?_⟩
      exact K5 _ _ _ _ (by kernel_rfl) (by exact ⟨v61, s62, _, rfl, hcur, (by first | exact hl61.trans hl62 | exact hl62.trans hl61), hR61, hi62, hS⟩) ((Sub.cons rfl (Sub.cons rfl (Sub.cons rfl (Sub.cons rfl (Sub.cons rfl (Sub.cons rfl (Sub.cons rfl Sub.nil))))))))
    ·
     skip
     have hTo := hT
     clear hS hT
     rintro e w ⟨v61, s62, G63, rfl, hcur2, hnew, hR61, hi62, hS⟩
     have hT := hTo.back hS (by first | exact Le.refl _ | assumption) (fun x hx => by try simp only [List.take_succ_cons, List.take_zero, List.mem_cons, List.not_mem_nil, or_false] at hx; (rcases hx with rfl | rfl | rfl | rfl) <;> simp)
     clear hTo
     clear hcur
     have hcur := hcur2
     clear hcur2
     replace hAA := hAA.mono ETriv.mono hnew
     replace hRA := hRA.mono ERule.mono hnew
     replace hAB := hAB.mono ETriv.mono hnew
     replace hRB := hRB.mono ERule.mono hnew
     replace hAC := hAC.mono ETriv.mono hnew
     replace hRC := hRC.mono ERule.mono hnew
     replace hP := hP.mono EStep.mono hnew
     refine al_gstep (i := 32) rfl (by kernel_rfl) rfl rfl rfl (op_call_sc hS cf_18 rfl (ints_t hS.hold hR61 hi62)) ?_
     clear hS
     rintro _ w ⟨rfl, hS⟩
     have hT := hT.back hS (by first | exact Le.refl _ | assumption) (fun x hx => by try simp only [List.take_succ_cons, List.take_zero, List.mem_cons, List.not_mem_nil, or_false] at hx; (rcases hx with rfl | rfl | rfl | rfl) <;> simp)
     refine ⟨fun _ _ => hT, ?_⟩
     refine al_take (i := 33) rfl (by kernel_rfl) (by kernel_rfl) (by kernel_rfl) rfl (fun _ _ _ h => h) (op_pick_t rfl rfl) rfl ?_
     refine al_take (i := 34) rfl (by kernel_rfl) (by kernel_rfl) (by kernel_rfl) rfl (fun _ _ _ h => h) (op_move rfl) rfl ?_
     refine al_gload (i := 35) rfl (by kernel_rfl) (by kernel_rfl) (by kernel_rfl) rfl rfl rfl (fun _ _ _ h => h) (by exact op_loadN agg_26 rfl (by rfl) (fun w hw k u hk => (hw.bcell (i := 3) rfl).trans hk)) rfl hT ?_
     refine al_gload (i := 36) rfl (by kernel_rfl) (by kernel_rfl) (by kernel_rfl) rfl rfl rfl (fun _ _ _ h => h) (by exact op_loadN agg_34 rfl (by rfl) (fun w hw k u hk => (hw.bcell (i := 0) rfl).trans hk)) rfl hT ?_
     refine al_gtake (i := 38) rfl (by kernel_rfl) (by kernel_rfl) (by kernel_rfl) rfl rfl rfl (fun _ _ _ h => h) (op_fieldAddr fld_34_0 rfl) rfl ?_
     refine al_gload (i := 39) rfl (by kernel_rfl) (by kernel_rfl) (by kernel_rfl) rfl rfl rfl (fun _ _ _ h => h) (by exact op_load1 one_32 rfl (fun w hw => (hw.bcell (i := 0) rfl).trans rfl)) rfl hT ?_
     refine al_gtake (i := 40) rfl (by kernel_rfl) (by kernel_rfl) (by kernel_rfl) rfl rfl rfl (fun _ _ _ h => h) (op_slice_lh (l := 1) (h := 2) sl_32 rfl rfl rfl (by decide) (by decide)) rfl ?_
     refine al_gtake (i := 41) rfl (by kernel_rfl) (by kernel_rfl) (by kernel_rfl) rfl rfl rfl (fun _ _ _ h => h) (op_build (is := [0]) (xs := [.tmp 71]) (v := .agg #[.slice (if 3 = 1 then s29 else Option.map (fun x => x.add (1 * 2)) s29) (2 - 1) (3 - 1), .slice none 0 0]) rfl rfl (fun w => by kernel_rfl)) rfl ?_
     refine al_gstep (i := 37) rfl (by kernel_rfl) rfl rfl rfl (op_call_rt hS cf_14 rfl (fun _ => .inr rfl) (whyMono) (whyRt (just_For_c _ _ hS.hold ETriv.mono _ _ U3 RA hAA hRA okA _ _ PA [] hP (RSl.nil _) leanA (by decide) 2) (l := [⟨-1, [2]⟩]) (hs := []) forA2)) ?_
     clear hS
     rintro v68 w ⟨G68, hl68, hR68, hS⟩
     obtain ⟨vs68, vh68, rfl, hs68, hh68⟩ := hR68
     replace hAA := hAA.mono ETriv.mono hl68
     replace hRA := hRA.mono ERule.mono hl68
     replace hAB := hAB.mono ETriv.mono hl68
     replace hRB := hRB.mono ERule.mono hl68
     replace hAC := hAC.mono ETriv.mono hl68
     replace hRC := hRC.mono ERule.mono hl68
     replace hP := hP.mono EStep.mono hl68
     replace hcur := hcur.trans hl68
     have hT := hT.back hS (by first | exact Le.refl _ | assumption) (fun x hx => by try simp only [List.take_succ_cons, List.take_zero, List.mem_cons, List.not_mem_nil, or_false] at hx; (rcases hx with rfl | rfl | rfl | rfl) <;> simp)
     refine ⟨fun _ _ => hT, ?_⟩
     refine al_gstep (i := 42) rfl (by kernel_rfl) rfl rfl rfl (op_call_sc hS cf_17 rfl (same_t hS.hold hs68 hh68 ((hP.cut (lo := 1) (hi := 2) (by decide) (by decide) : RSl 2 EStep _ _ [⟨-1, [2]⟩])) (RSl.nil _))) ?_
     clear hS
     rintro _ w ⟨rfl, hS⟩
     have hT := hT.back hS (by first | exact Le.refl _ | assumption) (fun x hx => by try simp only [List.take_succ_cons, List.take_zero, List.mem_cons, List.not_mem_nil, or_false] at hx; (rcases hx with rfl | rfl | rfl | rfl) <;> simp)
     refine ⟨fun _ _ => hT, ?_⟩
     refine al_take (i := 43) rfl (by kernel_rfl) (by kernel_rfl) (by kernel_rfl) rfl (fun _ _ _ h => h) (op_pick_t rfl rfl) rfl ?_
     refine al_take (i := 44) rfl (by kernel_rfl) (by kernel_rfl) (by kernel_rfl) rfl (fun _ _ _ h => h) (op_move rfl) rfl ?_
     refine al_gload (i := 45) rfl (by kernel_rfl) (by kernel_rfl) (by kernel_rfl) rfl rfl rfl (fun _ _ _ h => h) (by exact op_loadN agg_26 rfl (by rfl) (fun w hw k u hk => (hw.bcell (i := 3) rfl).trans hk)) rfl hT ?_
     refine al_gload (i := 46) rfl (by kernel_rfl) (by kernel_rfl) (by kernel_rfl) rfl rfl rfl (fun _ _ _ h => h) (by exact op_loadN agg_34 rfl (by rfl) (fun w hw k u hk => (hw.bcell (i := 0) rfl).trans hk)) rfl hT ?_
     refine al_gload (i := 48) rfl (by kernel_rfl) (by kernel_rfl) (by kernel_rfl) rfl rfl rfl (fun _ _ _ h => h) (by exact op_loadN agg_34 rfl (by rfl) (fun w hw k u hk => (hw.bcell (i := 0) rfl).trans hk)) rfl hT ?_
     refine al_gstep (i := 47) rfl (by kernel_rfl) rfl rfl rfl (op_call_rt hS cf_14 rfl (fun _ => .inr rfl) (whyMono) (whyRt (just_For_c _ _ hS.hold ETriv.mono _ _ U3 RA hAA hRA okA _ _ PA [] hP (RSl.nil _) leanA (by decide) 1) (l := PA) (hs := []) forA1)) ?_
     clear hS
     rintro v78 w ⟨G78, hl78, hR78, hS⟩
     obtain ⟨vs78, vh78, rfl, hs78, hh78⟩ := hR78
     replace hAA := hAA.mono ETriv.mono hl78
     replace hRA := hRA.mono ERule.mono hl78
     replace hAB := hAB.mono ETriv.mono hl78
     replace hRB := hRB.mono ERule.mono hl78
     replace hAC := hAC.mono ETriv.mono hl78
     replace hRC := hRC.mono ERule.mono hl78
     replace hP := hP.mono EStep.mono hl78
     replace hcur := hcur.trans hl78
     have hT := hT.back hS (by first | exact Le.refl _ | assumption) (fun x hx => by try simp only [List.take_succ_cons, List.take_zero, List.mem_cons, List.not_mem_nil, or_false] at hx; (rcases hx with rfl | rfl | rfl | rfl) <;> simp)
     refine ⟨fun _ _ => hT, ?_⟩
     refine al_gstep (i := 49) rfl (by kernel_rfl) rfl rfl rfl (op_call_sc hS cf_17 rfl (same_t hS.hold hs78 hh78 (hP) (RSl.nil _))) ?_
     clear hS
     rintro _ w ⟨rfl, hS⟩
     have hT := hT.back hS (by first | exact Le.refl _ | assumption) (fun x hx => by try simp only [List.take_succ_cons, List.take_zero, List.mem_cons, List.not_mem_nil, or_false] at hx; (rcases hx with rfl | rfl | rfl | rfl) <;> simp)
     refine ⟨fun _ _ => hT, ?_⟩
     refine al_take (i := 50) rfl (by kernel_rfl) (by kernel_rfl) (by kernel_rfl) rfl (fun _ _ _ h => h) (op_pick_t rfl rfl) rfl ?_
     refine al_take (i := 51) rfl (by kernel_rfl) (by kernel_rfl) (by kernel_rfl) rfl (fun _ _ _ h => h) (op_move rfl) rfl ?_
     refine al_gload (i := 52) rfl (by kernel_rfl) (by kernel_rfl) (by kernel_rfl) rfl rfl rfl (fun _ _ _ h => h) (by exact op_loadN agg_26 rfl (by rfl) (fun w hw k u hk => (hw.bcell (i := 3) rfl).trans hk)) rfl hT ?_
     refine al_gload (i := 53) rfl (by kernel_rfl) (by kernel_rfl) (by kernel_rfl) rfl rfl rfl (fun _ _ _ h => h) (by exact op_loadN agg_34 rfl (by rfl) (fun w hw k u hk => (hw.bcell (i := 0) rfl).trans hk)) rfl hT ?_
     refine al_gstep (i := 54) rfl (by kernel_rfl) rfl rfl rfl (op_call_rt hS cf_14 rfl (fun _ => .inr rfl) (whyMono) (whyRt (just_For_c _ _ hS.hold ETriv.mono _ _ U3 RA hAA hRA okA _ _ PA [] hP (RSl.nil _) leanA (by decide) 3) (l := []) (hs := []) forA3)) ?_
     clear hS
     rintro v85 w ⟨G85, hl85, hR85, hS⟩
     obtain ⟨vs85, vh85, rfl, hs85, hh85⟩ := hR85
     replace hAA := hAA.mono ETriv.mono hl85
     replace hRA := hRA.mono ERule.mono hl85
     replace hAB := hAB.mono ETriv.mono hl85
     replace hRB := hRB.mono ERule.mono hl85
     replace hAC := hAC.mono ETriv.mono hl85
     replace hRC := hRC.mono ERule.mono hl85
     replace hP := hP.mono EStep.mono hl85
     replace hcur := hcur.trans hl85
     obtain ⟨o85, c85, rfl, _, _⟩ := hs85.elimN (n := 0) rfl
     have hT := hT.back hS (by first | exact Le.refl _ | assumption) (fun x hx => by try simp only [List.take_succ_cons, List.take_zero, List.mem_cons, List.not_mem_nil, or_false] at hx; (rcases hx with rfl | rfl | rfl | rfl) <;> simp)
     refine ⟨fun _ _ => hT, ?_⟩
     refine al_gtake (i := 55) rfl (by kernel_rfl) (by kernel_rfl) (by kernel_rfl) rfl rfl rfl (fun _ _ _ h => h) (op_field (cs := [.slice o85 0 c85, vh85]) Try.underlying34 rfl one_32 rfl rfl) rfl ?_
     refine al_gtake (i := 56) rfl (by kernel_rfl) (by kernel_rfl) (by kernel_rfl) rfl rfl rfl (fun _ _ _ h => h) (op_len sl_32 rfl rfl) rfl ?_
     refine al_gtake (i := 57) rfl (by kernel_rfl) (by kernel_rfl) (by kernel_rfl) rfl rfl rfl (fun _ _ _ h => h) (op_eqlT rfl rfl rfl) rfl ?_
     refine al_take (i := 58) rfl (by kernel_rfl) (by kernel_rfl) (by kernel_rfl) rfl (fun _ _ _ h => h) (op_pick_t rfl rfl) rfl ?_
     refine al_take (i := 59) rfl (by kernel_rfl) (by kernel_rfl) (by kernel_rfl) rfl (fun _ _ _ h => h) (op_move rfl) rfl ?_
     refine al_gload (i := 60) rfl (by kernel_rfl) (by kernel_rfl) (by kernel_rfl) rfl rfl rfl (fun _ _ _ h => h) (by exact op_loadN agg_26 rfl (by rfl) (fun w hw k u hk => (hw.bcell (i := 2) rfl).trans hk)) rfl hT ?_
     refine al_meet (fuel2 := 3) (ds2 := [65, 64, 63, 62, 61, 60, 59, 58, 57, 56, 55, 54, 53, 52, 51, 50, 49, 48, 47, 46, 45, 44, 43, 42, 41, 40, 39, 38, 37, 36, 35, 34, 33, 32, 31, 30, 29, 28, 27, 26, 25, 24, 23, 22, 21, 20, 19, 18, 17, 16, 15, 14, 13, 12, 11, 10, 9, 8, 7, 6, 5, 4, 3, 2, 1, 0]) (fun e w => ∃ vs94 vh94 s95 G97, e = [(1, .pointer (some ⟨bA, 0, none⟩)), (2, .pointer (some ⟨bB, 0, none⟩)), (3, .pointer (some ⟨bC, 0, none⟩)), (4, .pointer (some ⟨bP, 0, none⟩)), (90, .bool true), (94, .agg #[vs94, vh94]), (96, .agg #[.slice none 0 0, .slice s95 2 2])] ∧ Le G29 G97 ∧ Le G85 G97 ∧ RSl 2 EStep G97 vs94 [] ∧ RSl 1 EInt G97 vh94 [0, 1] ∧ RSl 1 EInt G97 (.slice s95 2 2) [0, 1] ∧ SS G w0 G97 [.blk bP 34 [.slice s29 3 3, .slice none 0 0], .blk bC 26 [.slice oAC 2 cAC, .slice oRC 2 cRC], .blk bB 26 [.slice oAB 2 cAB, .slice oRB 2 cRB], .blk bA 26 [.slice oAA 3 cAA, .slice oRA 2 cRA]] w) (fun K5 => ?_) ?_
     ·
      skip
      refine al_two (i := 61) (j := 64) (by kernel_rfl) (fun a ha => ?_) (fun a ha => ?_)
      ·
       skip
       refine wpOp_of_opkg (i := 61) rfl rfl rfl ha (op_buildSlice (el := 3) (is := [0, 1]) (xs := [.const (.int .i64 (0)), .const (.int .i64 (1))]) (sz := 1) (cs := [.int .i64 0, .int .i64 1]) hS rfl rfl (fun w => by kernel_rfl) rfl (by decide)) ?_
       clear hS
       rintro _ w ⟨s92, rfl, hS⟩
       obtain ⟨G92, hl92, hS92, hi92⟩ := SS.give' ([0, 1] : List Int) [] EInt.mono hS (by decide) ((Rows.ints (l := [0, 1]) (by decide)).mono EInt.mono (fun b o hb => by cases hb)) rfl
       clear hS
       have hS := hS92
       clear hS92
       (try simp only [List.nil_append, List.cons_append] at hS)
       replace hAA := hAA.mono ETriv.mono hl92
       replace hRA := hRA.mono ERule.mono hl92
       replace hAB := hAB.mono ETriv.mono hl92
       replace hRB := hRB.mono ERule.mono hl92
       replace hAC := hAC.mono ETriv.mono hl92
       replace hRC := hRC.mono ERule.mono hl92
       replace hP := hP.mono EStep.mono hl92
       replace hcur := hcur.trans hl92
       (try replace hi95 := hi95.mono EInt.mono hl92)
       have hT := hT.back hS (by first | exact Le.refl _ | assumption) (fun x hx => by try simp only [List.take_succ_cons, List.take_zero, List.mem_cons, List.not_mem_nil, or_false] at hx; (rcases hx with rfl | rfl | rfl | rfl) <;> simp)
       refine ⟨fun _ _ => hT, ?_⟩
       refine al_at ?_ (ha.put (blt_lt rfl) _)
       refine al_gtake (i := 62) rfl (by kernel_rfl) (by kernel_rfl) (by kernel_rfl) rfl rfl rfl (fun _ _ _ h => h) (op_build (is := [1]) (xs := [.tmp 92]) (v := .agg #[.slice none 0 0, .slice s92 2 2]) rfl rfl (fun w => by kernel_rfl)) rfl ?_
       refine al_two (i := 63) (j := 64) (by kernel_rfl) (fun a ha => ?_) (fun a ha => ?_)
       ·
        skip
        refine wpOp_of_opkg (i := 63) rfl rfl rfl ha (op_call_rt hS cf_14 rfl (fun _ => .inr rfl) (whyMono) (whyRt (just_For_c _ _ hS.hold ETriv.mono _ _ U2 RB hAB hRB okB _ _ [] [0, 1] (RSl.nil _) hi92 leanB (by decide) 0) (l := []) (hs := [0, 1]) forB0)) ?_
        clear hS
        rintro v94 w ⟨G94, hl94, hR94, hS⟩
        obtain ⟨vs94, vh94, rfl, hs94, hh94⟩ := hR94
        replace hAA := hAA.mono ETriv.mono hl94
        replace hRA := hRA.mono ERule.mono hl94
        replace hAB := hAB.mono ETriv.mono hl94
        replace hRB := hRB.mono ERule.mono hl94
        replace hAC := hAC.mono ETriv.mono hl94
        replace hRC := hRC.mono ERule.mono hl94
        replace hP := hP.mono EStep.mono hl94
        replace hcur := hcur.trans hl94
        (try replace hi95 := hi95.mono EInt.mono hl94)
        have hT := hT.back hS (by first | exact Le.refl _ | assumption) (fun x hx => by try simp only [List.take_succ_cons, List.take_zero, List.mem_cons, List.not_mem_nil, or_false] at hx; (rcases hx with rfl | rfl | rfl | rfl) <;> simp)
        refine ⟨fun _ _ => hT, ?_⟩
        refine al_at ?_ (ha.put (blt_lt rfl) _)
        refine al_gstep (i := 64) rfl (by kernel_rfl) rfl rfl rfl (op_buildSlice (el := 3) (is := [0, 1]) (xs := [.const (.int .i64 (0)), .const (.int .i64 (1))]) (sz := 1) (cs := [.int .i64 0, .int .i64 1]) hS rfl rfl (fun w => by kernel_rfl) rfl (by decide)) ?_
        clear hS
        rintro _ w ⟨s95, rfl, hS⟩
        obtain ⟨G95, hl95, hS95, hi95⟩ := SS.give' ([0, 1] : List Int) [] EInt.mono hS (by decide) ((Rows.ints (l := [0, 1]) (by decide)).mono EInt.mono (fun b o hb => by cases hb)) rfl
        clear hS
        have hS := hS95
        clear hS95
        (try simp only [List.nil_append, List.cons_append] at hS)
        replace hAA := hAA.mono ETriv.mono hl95
        replace hRA := hRA.mono ERule.mono hl95
        replace hAB := hAB.mono ETriv.mono hl95
        replace hRB := hRB.mono ERule.mono hl95
        replace hAC := hAC.mono ETriv.mono hl95
        replace hRC := hRC.mono ERule.mono hl95
        replace hP := hP.mono EStep.mono hl95
        replace hcur := hcur.trans hl95
        (try replace hi92 := hi92.mono EInt.mono hl95)
        (try replace hs94 := hs94.mono EStep.mono hl95)
        (try replace hh94 := hh94.mono EInt.mono hl95)
        have hT := hT.back hS (by first | exact Le.refl _ | assumption) (fun x hx => by try simp only [List.take_succ_cons, List.take_zero, List.mem_cons, List.not_mem_nil, or_false] at hx; (rcases hx with rfl | rfl | rfl | rfl) <;> simp)
        refine ⟨fun _ _ => hT, ?_⟩
        refine al_gtake (i := 65) rfl (by kernel_rfl) (by kernel_rfl) (by kernel_rfl) rfl rfl rfl (fun _ _ _ h => h) (op_build (is := [1]) (xs := [.tmp 95]) (v := .agg #[.slice none 0 0, .slice s95 2 2]) rfl rfl (fun w => by kernel_rfl)) rfl ?_
        exact K5 _ _ _ _ (by kernel_rfl) (by exact ⟨vs94, vh94, s95, _, rfl, hcur, (by first | exact (hl92.trans hl94).trans hl95 | exact (hl92.trans hl95).trans hl94 | exact (hl95.trans hl92).trans hl94), hs94, hh94, hi95, hS⟩) ((Sub.cons rfl (Sub.cons rfl (Sub.cons rfl (Sub.cons rfl (Sub.cons rfl (Sub.cons rfl (Sub.cons rfl Sub.nil))))))))
       ·
        skip
        refine wpOp_of_opkg (i := 64) rfl rfl rfl ha (op_buildSlice (el := 3) (is := [0, 1]) (xs := [.const (.int .i64 (0)), .const (.int .i64 (1))]) (sz := 1) (cs := [.int .i64 0, .int .i64 1]) hS rfl rfl (fun w => by kernel_rfl) rfl (by decide)) ?_
        clear hS
        rintro _ w ⟨s95, rfl, hS⟩
        obtain ⟨G95, hl95, hS95, hi95⟩ := SS.give' ([0, 1] : List Int) [] EInt.mono hS (by decide) ((Rows.ints (l := [0, 1]) (by decide)).mono EInt.mono (fun b o hb => by cases hb)) rfl
        clear hS
        have hS := hS95
        clear hS95
        (try simp only [List.nil_append, List.cons_append] at hS)
        replace hAA := hAA.mono ETriv.mono hl95
        replace hRA := hRA.mono ERule.mono hl95
        replace hAB := hAB.mono ETriv.mono hl95
        replace hRB := hRB.mono ERule.mono hl95
        replace hAC := hAC.mono ETriv.mono hl95
        replace hRC := hRC.mono ERule.mono hl95
        replace hP := hP.mono EStep.mono hl95
        replace hcur := hcur.trans hl95
        (try replace hi92 := hi92.mono EInt.mono hl95)
        (try replace hs94 := hs94.mono EStep.mono hl95)
        (try replace hh94 := hh94.mono EInt.mono hl95)
        have hT := hT.back hS (by first | exact Le.refl _ | assumption) (fun x hx => by try simp only [List.take_succ_cons, List.take_zero, List.mem_cons, List.not_mem_nil, or_false] at hx; (rcases hx with rfl | rfl | rfl | rfl) <;> simp)
        refine ⟨fun _ _ => hT, ?_⟩
        refine al_at ?_ (ha.put (blt_lt rfl) _)
        refine al_gtake (i := 65) rfl (by kernel_rfl) (by kernel_rfl) (by kernel_rfl) rfl rfl rfl (fun _ _ _ h => h) (op_build (is := [1]) (xs := [.tmp 95]) (v := .agg #[.slice none 0 0, .slice s95 2 2]) rfl rfl (fun w => by kernel_rfl)) rfl ?_
        refine al_gstep (i := 63) rfl (by kernel_rfl) rfl rfl rfl (op_call_rt hS cf_14 rfl (fun _ => .inr rfl) (whyMono) (whyRt (just_For_c _ _ hS.hold ETriv.mono _ _ U2 RB hAB hRB okB _ _ [] [0, 1] (RSl.nil _) hi92 leanB (by decide) 0) (l := []) (hs := [0, 1]) forB0)) ?_
        clear hS
        rintro v94 w ⟨G94, hl94, hR94, hS⟩
        obtain ⟨vs94, vh94, rfl, hs94, hh94⟩ := hR94
        replace hAA := hAA.mono ETriv.mono hl94
        replace hRA := hRA.mono ERule.mono hl94
        replace hAB := hAB.mono ETriv.mono hl94
        replace hRB := hRB.mono ERule.mono hl94
        replace hAC := hAC.mono ETriv.mono hl94
        replace hRC := hRC.mono ERule.mono hl94
        replace hP := hP.mono EStep.mono hl94
        replace hcur := hcur.trans hl94
        (try replace hi95 := hi95.mono EInt.mono hl94)
        have hT := hT.back hS (by first | exact Le.refl _ | assumption) (fun x hx => by try simp only [List.take_succ_cons, List.take_zero, List.mem_cons, List.not_mem_nil, or_false] at hx; (rcases hx with rfl | rfl | rfl | rfl) <;> simp)
        refine ⟨fun _ _ => hT, ?_⟩
        exact K5 _ _ _ _ (by kernel_rfl) (by exact ⟨vs94, vh94, s95, _, rfl, hcur, (by first | exact (hl92.trans hl94).trans hl95 | exact (hl92.trans hl95).trans hl94 | exact (hl95.trans hl92).trans hl94), hs94, hh94, hi95, hS⟩) ((Sub.cons rfl (Sub.cons rfl (Sub.cons rfl (Sub.cons rfl (Sub.cons rfl (Sub.cons rfl (Sub.cons rfl Sub.nil))))))))
      ·
       skip
       refine wpOp_of_opkg (i := 64) rfl rfl rfl ha (op_buildSlice (el := 3) (is := [0, 1]) (xs := [.const (.int .i64 (0)), .const (.int .i64 (1))]) (sz := 1) (cs := [.int .i64 0, .int .i64 1]) hS rfl rfl (fun w => by kernel_rfl) rfl (by decide)) ?_
       clear hS
       rintro _ w ⟨s95, rfl, hS⟩
       obtain ⟨G95, hl95, hS95, hi95⟩ := SS.give' ([0, 1] : List Int) [] EInt.mono hS (by decide) ((Rows.ints (l := [0, 1]) (by decide)).mono EInt.mono (fun b o hb => by cases hb)) rfl
       clear hS
       have hS := hS95
       clear hS95
       (try simp only [List.nil_append, List.cons_append] at hS)
       replace hAA := hAA.mono ETriv.mono hl95
       replace hRA := hRA.mono ERule.mono hl95
       replace hAB := hAB.mono ETriv.mono hl95
       replace hRB := hRB.mono ERule.mono hl95
       replace hAC := hAC.mono ETriv.mono hl95
       replace hRC := hRC.mono ERule.mono hl95
       replace hP := hP.mono EStep.mono hl95
       replace hcur := hcur.trans hl95
       (try replace hi92 := hi92.mono EInt.mono hl95)
       (try replace hs94 := hs94.mono EStep.mono hl95)
       (try replace hh94 := hh94.mono EInt.mono hl95)
       have hT := hT.back hS (by first | exact Le.refl _ | assumption) (fun x hx => by try simp only [List.take_succ_cons, List.take_zero, List.mem_cons, List.not_mem_nil, or_false] at hx; (rcases hx with rfl | rfl | rfl | rfl) <;> simp)
       refine ⟨fun _ _ => hT, ?_⟩
       refine al_at ?_ (ha.put (blt_lt rfl) _)
       refine al_gtake (i := 65) rfl (by kernel_rfl) (by kernel_rfl) (by kernel_rfl) rfl rfl rfl (fun _ _ _ h => h) (op_build (is := [1]) (xs := [.tmp 95]) (v := .agg #[.slice none 0 0, .slice s95 2 2]) rfl rfl (fun w => by kernel_rfl)) rfl ?_
       refine al_gstep (i := 61) rfl (by kernel_rfl) rfl rfl rfl (op_buildSlice (el := 3) (is := [0, 1]) (xs := [.const (.int .i64 (0)), .const (.int .i64 (1))]) (sz := 1) (cs := [.int .i64 0, .int .i64 1]) hS rfl rfl (fun w => by kernel_rfl) rfl (by decide)) ?_
       clear hS
       rintro _ w ⟨s92, rfl, hS⟩
       obtain ⟨G92, hl92, hS92, hi92⟩ := SS.give' ([0, 1] : List Int) [] EInt.mono hS (by decide) ((Rows.ints (l := [0, 1]) (by decide)).mono EInt.mono (fun b o hb => by cases hb)) rfl
       clear hS
       have hS := hS92
       clear hS92
       (try simp only [List.nil_append, List.cons_append] at hS)
       replace hAA := hAA.mono ETriv.mono hl92
       replace hRA := hRA.mono ERule.mono hl92
       replace hAB := hAB.mono ETriv.mono hl92
       replace hRB := hRB.mono ERule.mono hl92
       replace hAC := hAC.mono ETriv.mono hl92
       replace hRC := hRC.mono ERule.mono hl92
       replace hP := hP.mono EStep.mono hl92
       replace hcur := hcur.trans hl92
       (try replace hi95 := hi95.mono EInt.mono hl92)
       have hT := hT.back hS (by first | exact Le.refl _ | assumption) (fun x hx => by try simp only [List.take_succ_cons, List.take_zero, List.mem_cons, List.not_mem_nil, or_false] at hx; (rcases hx with rfl | rfl | rfl | rfl) <;> simp)
       refine ⟨fun _ _ => hT, ?_⟩
       refine al_gtake (i := 62) rfl (by kernel_rfl) (by kernel_rfl) (by kernel_rfl) rfl rfl rfl (fun _ _ _ h => h) (op_build (is := [1]) (xs := [.tmp 92]) (v := .agg #[.slice none 0 0, .slice s92 2 2]) rfl rfl (fun w => by kernel_rfl)) rfl ?_
       refine al_gstep (i := 63) rfl (by kernel_rfl) rfl rfl rfl (op_call_rt hS cf_14 rfl (fun _ => .inr rfl) (whyMono) (whyRt (just_For_c _ _ hS.hold ETriv.mono _ _ U2 RB hAB hRB okB _ _ [] [0, 1] (RSl.nil _) hi92 leanB (by decide) 0) (l := []) (hs := [0, 1]) forB0)) ?_
       clear hS
       rintro v94 w ⟨G94, hl94, hR94, hS⟩
       obtain ⟨vs94, vh94, rfl, hs94, hh94⟩ := hR94
       replace hAA := hAA.mono ETriv.mono hl94
       replace hRA := hRA.mono ERule.mono hl94
       replace hAB := hAB.mono ETriv.mono hl94
       replace hRB := hRB.mono ERule.mono hl94
       replace hAC := hAC.mono ETriv.mono hl94
       replace hRC := hRC.mono ERule.mono hl94
       replace hP := hP.mono EStep.mono hl94
       replace hcur := hcur.trans hl94
       (try replace hi95 := hi95.mono EInt.mono hl94)
       have hT := hT.back hS (by first | exact Le.refl _ | assumption) (fun x hx => by try simp only [List.take_succ_cons, List.take_zero, List.mem_cons, List.not_mem_nil, or_false] at hx; (rcases hx with rfl | rfl | rfl | rfl) <;> simp)
       refine ⟨fun _ _ => hT, ?_⟩
       exact K5 _ _ _ _ (by kernel_rfl) (by exact ⟨vs94, vh94, s95, _, rfl, hcur, (by first | exact (hl92.trans hl94).trans hl95 | exact (hl92.trans hl95).trans hl94 | exact (hl95.trans hl92).trans hl94), hs94, hh94, hi95, hS⟩) ((Sub.cons rfl (Sub.cons rfl (Sub.cons rfl (Sub.cons rfl (Sub.cons rfl (Sub.cons rfl (Sub.cons rfl Sub.nil))))))))
     ·
      skip
      have hTo := hT
      clear hS hT
      rintro e w ⟨vs94, vh94, s95, G97, rfl, hcur2, hnew, hs94, hh94, hi95, hS⟩
      have hT := hTo.back hS (by first | exact Le.refl _ | assumption) (fun x hx => by try simp only [List.take_succ_cons, List.take_zero, List.mem_cons, List.not_mem_nil, or_false] at hx; (rcases hx with rfl | rfl | rfl | rfl) <;> simp)
      clear hTo
      clear hcur
      have hcur := hcur2
      clear hcur2
      replace hAA := hAA.mono ETriv.mono hnew
      replace hRA := hRA.mono ERule.mono hnew
      replace hAB := hAB.mono ETriv.mono hnew
      replace hRB := hRB.mono ERule.mono hnew
      replace hAC := hAC.mono ETriv.mono hnew
      replace hRC := hRC.mono ERule.mono hnew
      replace hP := hP.mono EStep.mono hnew
      refine al_gstep (i := 66) rfl (by kernel_rfl) rfl rfl rfl (op_call_sc hS cf_17 rfl (same_t hS.hold hs94 hh94 (RSl.nil _) (hi95))) ?_
      clear hS
      rintro _ w ⟨rfl, hS⟩
      have hT := hT.back hS (by first | exact Le.refl _ | assumption) (fun x hx => by try simp only [List.take_succ_cons, List.take_zero, List.mem_cons, List.not_mem_nil, or_false] at hx; (rcases hx with rfl | rfl | rfl | rfl) <;> simp)
      refine ⟨fun _ _ => hT, ?_⟩
      refine al_take (i := 67) rfl (by kernel_rfl) (by kernel_rfl) (by kernel_rfl) rfl (fun _ _ _ h => h) (op_pick_t rfl rfl) rfl ?_
      refine al_take (i := 68) rfl (by kernel_rfl) (by kernel_rfl) (by kernel_rfl) rfl (fun _ _ _ h => h) (op_assign rfl) rfl ?_
      refine al_done (by kernel_rfl) ?_
      refine pq_then ?_
      refine cw_ret ?_
      refine ret1 rfl rfl ?_
      exact hS.sc_b rfl
end Go.Proofs.Ytmkgechdfimfnaa.K
