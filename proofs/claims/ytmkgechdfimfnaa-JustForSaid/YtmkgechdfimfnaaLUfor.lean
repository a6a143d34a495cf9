/-
  JustFor: its walk.
  No condition but the premises that each theorem names.
-/
import Derived.Test.YtmkgechdfimfnaaLJhead
import Derived.Test.YtmkgechdfimfnaaPly
import Derived.Test.YtmkgechdfimfnaaR21c
import Derived.Test.YtmkgechdfimfnaaR21e
namespace Go.Proofs.Ytmkgechdfimfnaa.K
open Go Go.RowKit
set_option linter.unusedVariables false
set_option linter.unusedSimpArgs false

open Pl

set_option maxRecDepth 100000 in
set_option maxHeartbeats 16000000 in

theorem L21_JustFor_c (G : GH) (w0 : World) (hG : Holds G w0) (v : Value) (l : List Rule) (h1 : RSl 3 ERule G v l) (z : Int) (hz : 0 ≤ z ∧ z ≤ 255) (y : Int) (hy : 0 ≤ y ∧ y ≤ 255) :
   Calls Try.prog 8 #[v, .int .u8 z, .int .u8 y] w0 (Sc w0 (.bool true)) := by
 refine enter Try.func8 rfl (N := 153) rfl (Nat.le_of_ble_eq_true rfl) ?_
 have hS := SS.init hG
 refine cw_seq ?_
 refine cw_region ?_
 refine ol_pure rfl (op_assign rfl) ?_
 refine ol_nil ?_
 refine pq_then ?_
 refine cw_seq ?_
 refine cw_region ?_
 refine ol_step rfl (op_call_sc hS cf_10 rfl (L21_head_c G _ hS.hold)) ?_
 clear hS
 rintro _ w ⟨rfl, hS⟩
 refine ol_pure rfl (op_assign rfl) ?_
 refine ol_nil ?_
 refine pq_then ?_
 refine cw_seq ?_
 refine cw_region ?_
 refine ol_pure rfl (op_move rfl) ?_
 refine ol_pure rfl (op_move rfl) ?_
 refine ol_step rfl (op_call_rt hS cf_11 rfl (fun _ => .inr rfl) (madeMono ETriv.mono) (R18_Made_c _ _ hS.hold v l h1 z hz)) ?_
 clear hS
 rintro v19 w ⟨Gm, hl19, hR19, hS⟩
 obtain ⟨va, vr, rfl, hA, hR⟩ := hR19
 have hmr := madeN_range z
 have hok := madeR_ok l hmr.1 hmr.2
 obtain ⟨atoms, hat⟩ : ∃ atoms : List Unit, atoms = List.replicate (madeN z) () := ⟨_, rfl⟩
 have hal : atoms.length = madeN z := by rw [hat]; simp
 rw [← hat] at hA
 have hP : PrOk atoms.length (madeR l (madeN z)) := by rw [hal]; exact hok.1
 have hNg := hok.2
 rw [← hal] at hmr
 clear hok hal hat
 generalize madeR l (madeN z) = rs at hR hP hNg
 obtain ⟨oA, cA, rfl, _, _⟩ := hA.elim
 obtain ⟨oR, cR, rfl, _, _⟩ := hR.elim
 have hwr := why_runs hP
 have hPn := hP.n_le
 have hPm := hP.m_le
 have hsl := hwr.1.len
 have hlo := hwr.1.lean hP
 have hsm : ∀ s ∈ (whyP atoms.length rs).1, s.atoms.length ≤ 1000 := fun s hs => by have := hwr.1.small s hs; omega
 have hng : ∀ r ∈ rs, r.neg.length ≤ 1000 := fun r hr => by have := (hNg r hr).2; omega
 have hn0 : (0 : Int) < atoms.length := by omega
 obtain ⟨aa, haa⟩ : ∃ aa : Nat, y % (atoms.length : Nat) = (aa : Int) := Int.eq_ofNat_of_zero_le (Int.emod_nonneg _ (by omega))
 have hal : aa < atoms.length := by have := Int.emod_lt_of_pos y hn0; omega
 refine ol_step rfl (op_alloc hS el_26 rfl) ?_
 clear hS
 rintro _ w ⟨b8, rfl, hS⟩
 refine ol_step0  (op_storeN (j := 0) hS sz_26 rfl rfl rfl rfl rfl (by simp [Value.oneCell'])) ?_
 clear hS
 rintro _ w hS; (try simp only [List.nil_append, List.cons_append, List.set] at hS)
 refine ol_nil ?_
 refine pq_then ?_
 refine cw_seq ?_
 refine al_start' hS (hS.take 1) (by kernel_rfl) rfl (fun w hS hT => ?_)
 refine al_take (i := 0) rfl (by kernel_rfl) (by kernel_rfl) (by kernel_rfl) rfl (fun _ _ _ h => h) (op_move rfl) rfl ?_
 refine al_take (i := 1) rfl (by kernel_rfl) (by kernel_rfl) (by kernel_rfl) rfl (fun _ _ _ h => h) (op_conv ⟨_, Try.underlying5⟩ Try.underlying3 rfl (wrap_u8 hy)) rfl ?_
 refine al_take (i := 2) rfl (by kernel_rfl) (by kernel_rfl) (by kernel_rfl) rfl (fun _ _ _ h => h) (op_fieldAddr fld_26_0 rfl) rfl ?_
 refine al_load (i := 3) rfl (by kernel_rfl) (by kernel_rfl) (by kernel_rfl) rfl (fun _ _ _ h => h) (by exact op_load1 one_24 rfl (fun w hw => (hw.bcell (i := 0) rfl).trans rfl)) rfl hT ?_
 refine al_take (i := 4) rfl (by kernel_rfl) (by kernel_rfl) (by kernel_rfl) rfl (fun _ _ _ h => h) (op_len sl_24 rfl rfl) rfl ?_
 refine al_take (i := 5) rfl (by kernel_rfl) (by kernel_rfl) (by kernel_rfl) rfl (fun _ _ _ h => h) (op_val (op_rem rfl rfl (by omega) (by omega)) (congrArg (Value.int .i64) haa)) rfl ?_
 refine al_load (i := 6) rfl (by kernel_rfl) (by kernel_rfl) (by kernel_rfl) rfl (fun _ _ _ h => h) (by exact op_loadN agg_26 rfl (by rfl) (fun w hw k u hk => (hw.bcell (i := 0) rfl).trans hk)) rfl hT ?_
 refine al_meet (fuel2 := 1) (ds2 := [9, 8, 7, 6, 5, 4, 3, 2, 1, 0]) (fun e w => ∃ oS1 cS1 oH1 cH1 b10 Gd, e = [(7, .bool true), (8, .pointer (some ⟨b8, 0, none⟩)), (9, .int .i64 (aa : Nat)), (10, .pointer (some ⟨b10, 0, none⟩)), (27, .agg #[.slice oS1 (whyP atoms.length rs).1.length cS1, .slice oH1 (whyP atoms.length rs).2.length cH1])] ∧ Le Gm Gd ∧ RSl 2 EStep Gd (.slice oS1 (whyP atoms.length rs).1.length cS1) (whyP atoms.length rs).1 ∧ RSl 1 EInt Gd (.slice oH1 (whyP atoms.length rs).2.length cH1) (whyP atoms.length rs).2 ∧ SS G w0 Gd [.blk b10 34 [.slice none 0 0, .slice none 0 0], .blk b8 26 [.slice oA atoms.length cA, .slice oR rs.length cR]] w) (fun K3 => ?_) ?_
 ·
  skip
  refine al_two (i := 7) (j := 8) (by kernel_rfl) (fun a ha => ?_) (fun a ha => ?_)
  ·
   skip
   refine wpOp_of_opk (i := 7) rfl ha (op_call_rt hS cf_15 rfl (fun _ => .inr rfl) (whyMono) (R21_Why_c _ _ hS.hold ETriv.mono _ _ atoms rs hA hR hP)) ?_
   clear hS
   rintro v27 w ⟨Gw, hl27, hR27, hS⟩
   obtain ⟨vs1, vh1, rfl, hs1, hh1⟩ := hR27
   obtain ⟨oS1, cS1, rfl, _, _⟩ := hs1.elim
   obtain ⟨oH1, cH1, rfl, _, _⟩ := hh1.elim
   replace hA := hA.mono ETriv.mono hl27
   replace hR := hR.mono ERule.mono hl27
   have hT := hT.back hS (by first | exact Le.refl _ | assumption) (fun x hx => by try simp only [List.take_succ_cons, List.take_zero, List.mem_cons, List.not_mem_nil, or_false] at hx; (rcases hx with rfl) <;> simp)
   refine ⟨fun _ _ => hT, ?_⟩
   refine al_at ?_ (ha.put (blt_lt rfl) _)
   refine al_step (i := 8) rfl (by kernel_rfl) rfl (op_alloc hS el_34 rfl) ?_
   clear hS
   rintro _ w ⟨b10, rfl, hS⟩
   have hT := hT.back hS (by first | exact Le.refl _ | assumption) (fun x hx => by try simp only [List.take_succ_cons, List.take_zero, List.mem_cons, List.not_mem_nil, or_false] at hx; (rcases hx with rfl) <;> simp)
   refine ⟨fun _ _ => hT, ?_⟩
   refine al_take (i := 9) rfl (by kernel_rfl) (by kernel_rfl) (by kernel_rfl) rfl (fun _ _ _ h => h) (op_assign rfl) rfl ?_
   exact K3 _ _ _ _ (by kernel_rfl) (by exact ⟨oS1, cS1, oH1, cH1, b10, Gw, rfl, hl27, hs1, hh1, hS⟩) ((Sub.cons rfl (Sub.cons rfl (Sub.cons rfl (Sub.cons rfl (Sub.cons rfl Sub.nil))))))
  ·
   skip
   refine wpOp_of_opk (i := 8) rfl ha (op_alloc hS el_34 rfl) ?_
   clear hS
   rintro _ w ⟨b10, rfl, hS⟩
   have hT := hT.back hS (by first | exact Le.refl _ | assumption) (fun x hx => by try simp only [List.take_succ_cons, List.take_zero, List.mem_cons, List.not_mem_nil, or_false] at hx; (rcases hx with rfl) <;> simp)
   refine ⟨fun _ _ => hT, ?_⟩
   refine al_at ?_ (ha.put (blt_lt rfl) _)
   refine al_step (i := 7) rfl (by kernel_rfl) rfl (op_call_rt hS cf_15 rfl (fun _ => .inr rfl) (whyMono) (R21_Why_c _ _ hS.hold ETriv.mono _ _ atoms rs hA hR hP)) ?_
   clear hS
   rintro v27 w ⟨Gw, hl27, hR27, hS⟩
   obtain ⟨vs1, vh1, rfl, hs1, hh1⟩ := hR27
   obtain ⟨oS1, cS1, rfl, _, _⟩ := hs1.elim
   obtain ⟨oH1, cH1, rfl, _, _⟩ := hh1.elim
   replace hA := hA.mono ETriv.mono hl27
   replace hR := hR.mono ERule.mono hl27
   have hT := hT.back hS (by first | exact Le.refl _ | assumption) (fun x hx => by try simp only [List.take_succ_cons, List.take_zero, List.mem_cons, List.not_mem_nil, or_false] at hx; (rcases hx with rfl) <;> simp)
   refine ⟨fun _ _ => hT, ?_⟩
   refine al_take (i := 9) rfl (by kernel_rfl) (by kernel_rfl) (by kernel_rfl) rfl (fun _ _ _ h => h) (op_assign rfl) rfl ?_
   exact K3 _ _ _ _ (by kernel_rfl) (by exact ⟨oS1, cS1, oH1, cH1, b10, Gw, rfl, hl27, hs1, hh1, hS⟩) ((Sub.cons rfl (Sub.cons rfl (Sub.cons rfl (Sub.cons rfl (Sub.cons rfl Sub.nil))))))
 ·
  skip
  have hTo := hT
  clear hS hT
  rintro e w ⟨oS1, cS1, oH1, cH1, b10, Gd, rfl, hld, hs1, hh1, hS⟩
  have hT := hTo.back hS (by first | exact Le.refl _ | assumption) (fun x hx => by try simp only [List.take_succ_cons, List.take_zero, List.mem_cons, List.not_mem_nil, or_false] at hx; (rcases hx with rfl) <;> simp)
  clear hTo
  replace hA := hA.mono ETriv.mono hld
  replace hR := hR.mono ERule.mono hld
  refine al_step0 (i := 10) rfl (by kernel_rfl) (op_storeN (j := 0) hS sz_34 rfl rfl rfl rfl rfl (by simp [Value.oneCell'])) ?_
  clear hS
  rintro _ w hS; (try simp only [List.nil_append, List.cons_append, List.set] at hS)
  refine ⟨no_need (by kernel_rfl), ?_⟩
  refine al_done (by kernel_rfl) ?_
  refine pq_then ?_
  refine cw_seq ?_
  refine cw_region ?_
  refine ol_load rfl (op_loadN agg_26 rfl (by rfl) (fun w hw k u hk => (hw.bcell (i := 1) rfl).trans hk)) hS ?_
  refine ol_load rfl (op_loadN agg_34 rfl (by rfl) (fun w hw k u hk => (hw.bcell (i := 0) rfl).trans hk)) hS ?_
  refine ol_pure rfl (op_move rfl) ?_
  refine ol_step rfl (op_call_rt hS cf_14 rfl (fun _ => .inr rfl) (whyMono) (just_For_c _ _ hS.hold ETriv.mono _ _ atoms rs hA hR hP _ _ _ _ hs1 hh1 hlo (by omega) (aa : Int))) ?_
  clear hS
  rintro v31 w ⟨Gq, hl31, hR31, hS⟩
  obtain ⟨vs31, vh31, rfl, hq, hu⟩ := hR31
  obtain ⟨oQ, cQ, rfl, _, _⟩ := hq.elim
  obtain ⟨oU, cU, rfl, _, _⟩ := hu.elim
  replace hA := hA.mono ETriv.mono hl31
  replace hR := hR.mono ERule.mono hl31
  replace hs1 := hs1.mono EStep.mono hl31
  replace hh1 := hh1.mono EInt.mono hl31
  refine ol_step rfl (op_alloc hS el_34 rfl) ?_
  clear hS
  rintro _ w ⟨b11, rfl, hS⟩
  refine ol_step0  (op_storeN (j := 0) hS sz_34 rfl rfl rfl rfl rfl (by simp [Value.oneCell'])) ?_
  clear hS
  rintro _ w hS; (try simp only [List.nil_append, List.cons_append, List.set] at hS)
  refine ol_nil ?_
  refine pq_then ?_
  refine cw_seq ?_
  refine cw_region ?_
  refine ol_load rfl (op_loadN agg_26 rfl (by rfl) (fun w hw k u hk => (hw.bcell (i := 2) rfl).trans hk)) hS ?_
  refine ol_load rfl (op_loadN agg_34 rfl (by rfl) (fun w hw k u hk => (hw.bcell (i := 1) rfl).trans hk)) hS ?_
  refine ol_step rfl (op_call_fr hS cf_20 rfl (R21_Known_c _ _ hS.hold ETriv.mono _ _ atoms rs hA hR hP _ _ (whyP atoms.length rs).1 hs1 ⟨_, _, _, rfl⟩)) ?_
  clear hS
  rintro v34 w ⟨F34, Gk, hR34, hF34, hf34, hl34, hS⟩
  obtain ⟨oM, cM, rfl, _, _⟩ := hR34.elimN (n := atoms.length) (known_len _ _)
  have hMm := hR34.mono EInt.mono hf34
  replace hA := hA.mono ETriv.mono hl34
  replace hR := hR.mono ERule.mono hl34
  replace hs1 := hs1.mono EStep.mono hl34
  replace hh1 := hh1.mono EInt.mono hl34
  replace hq := hq.mono EStep.mono hl34
  replace hu := hu.mono EInt.mono hl34
  refine ol_pure rfl (op_assign rfl) ?_
  refine ol_nil ?_
  refine pq_then ?_
  refine cw_seq ?_
  refine cw_seq ?_
  have hml : aa < (knownI atoms.length (whyP atoms.length rs).1).length := by rw [known_len]; exact hal
  obtain ⟨hoM, hcM, hbM⟩ := hMm.int hml
  have hva : valI (knownI atoms.length (whyP atoms.length rs).1) (aa : Int) = (knownI atoms.length (whyP atoms.length rs).1)[aa] := val_at' hml
  have ha0 : (0 : Int) ≤ aa := by omega
  have ha1 : (aa : Int) < atoms.length := by omega
  refine cw_region ?_
  refine ol_pure rfl (op_move rfl) ?_
  refine ol_pure rfl (op_move rfl) ?_
  refine ol_pure rfl (op_indexN sl_28 rfl rfl (by omega) hoM) ?_
  refine ol_load rfl (op_load1 one_3 rfl (fun w hw => hw.gcell hcM)) hS ?_
  refine ol_pure rfl (op_eql rfl rfl) ?_
  refine ol_nil ?_
  refine pq_then ?_
  refine cw_cond rfl (fun h39 => ?_) (fun h39 => ?_)
  ·
   skip
   try simp only [decide_eq_true_eq, decide_eq_false_iff_not, Bool.not_eq_true', Bool.not_eq_false', Bool.not_eq_eq_eq_not, Bool.not_true, Bool.not_false] at h39
   have hfo := for_open (rs := rs) (p := (whyP atoms.length rs)) ha0 ha1 (hva.trans h39)
   refine cw_seq ?_
   refine cw_region ?_
   refine ol_load rfl (op_loadN agg_34 rfl (by rfl) (fun w hw k u hk => (hw.bcell (i := 0) rfl).trans hk)) hS ?_
   refine ol_load rfl (op_loadN agg_34 rfl (by rfl) (fun w hw k u hk => (hw.bcell (i := 1) rfl).trans hk)) hS ?_
   refine ol_step rfl (op_call_sc hS cf_17 rfl ((by have h9 := R21_Same_c _ _ hS.hold _ _ _ _ hq hu _ _ _ _ hs1 hh1; rwa [decide_eq_true (by rw [hfo]; exact ⟨rfl, rfl⟩)] at h9))) ?_
   clear hS
   rintro _ w ⟨rfl, hS⟩
   refine ol_pure rfl (op_move rfl) ?_
   refine ol_guard_pure rfl rfl rfl (op_move rfl) ?_
   refine ol_pure rfl (op_pick_t rfl rfl) ?_
   refine ol_pure rfl (op_assign rfl) ?_
   refine ol_nil ?_
   refine pq_then ?_
   refine cw_ret ?_
   refine pq_ret ?_
   refine ret1 rfl rfl ?_
   exact hS.sc_b rfl
  ·
   skip
   try simp only [decide_eq_true_eq, decide_eq_false_iff_not, Bool.not_eq_true', Bool.not_eq_false', Bool.not_eq_eq_eq_not, Bool.not_true, Bool.not_false] at h39
   obtain ⟨hby, hfo⟩ := for_told (rs := rs) (p := (whyP atoms.length rs)) ha0 ha1 (by rw [hva]; exact h39)
   have hpt := hwr.1.part hP hby
   have hpr := part_runs hwr.1 hP hpt
   have hsub := part_sub hpt.len
   have hq1 : RSl 2 EStep Gk (.slice oQ (partI (whyP atoms.length rs).1 (needI atoms.length rs (whyP atoms.length rs).1 (aa : Int))).length cQ) (partI (whyP atoms.length rs).1 (needI atoms.length rs (whyP atoms.length rs).1 (aa : Int))) := by rw [hfo] at hq; exact hq
   rw [hfo] at hS hq hu ⊢
   have hqle := hq1.le
   refine cw_skip ?_
   refine pq_then ?_
   refine cw_seq ?_
   refine cw_region ?_
   refine ol_load rfl (op_loadN agg_26 rfl (by rfl) (fun w hw k u hk => (hw.bcell (i := 2) rfl).trans hk)) hS ?_
   refine ol_step rfl (op_call_fr hS cf_23 rfl (R21_Open_c _ _ hS.hold _ _ atoms hA ⟨_, _, _, rfl⟩ (by omega))) ?_
   clear hS
   rintro v47 w ⟨F47, Go, hR47, hF47, hf47, hl47, hS⟩
   obtain ⟨oN, cN, rfl, _, _⟩ := hR47.elimN (n := atoms.length) (by simp [startI])
   have hNn := hR47.mono EInt.mono hf47
   replace hMm := hMm.mono EInt.mono hl47
   replace hcM := hl47.cell hcM
   replace hq1 := hq1.mono EStep.mono hl47
   replace hA := hA.mono ETriv.mono hl47
   replace hR := hR.mono ERule.mono hl47
   replace hs1 := hs1.mono EStep.mono hl47
   replace hh1 := hh1.mono EInt.mono hl47
   replace hq := hq.mono EStep.mono hl47
   replace hu := hu.mono EInt.mono hl47
   refine ol_pure rfl (op_assign rfl) ?_
   refine ol_pure rfl (op_assign rfl) ?_
   refine ol_nil ?_
   refine pq_then ?_
   refine cw_seq ?_
   refine cw_seq ?_
   refine cw_region ?_
   refine ol_pure rfl (op_assign rfl) ?_
   refine ol_nil ?_
   refine pq_then ?_
   refine cw_block ?_
   refine cw_loop (fun e w n => ∃ (k i : Nat) (oN : Option Addr) (cN : Nat) (Gk2 : GH), e = [(7, .bool true), (8, .pointer (some ⟨b8, 0, none⟩)), (9, .int .i64 (aa : Nat)), (10, .pointer (some ⟨b10, 0, none⟩)), (11, .pointer (some ⟨b11, 0, none⟩)), (12, .slice oM atoms.length cM), (13, .int .i64 (k : Nat)), (14, .slice oN atoms.length cN), (15, .int .i64 (i : Nat))] ∧ i ≤ (partI (whyP atoms.length rs).1 (needI atoms.length rs (whyP atoms.length rs).1 (aa : Int))).length ∧ n = (partI (whyP atoms.length rs).1 (needI atoms.length rs (whyP atoms.length rs).1 (aa : Int))).length - i ∧ k ≤ (whyP atoms.length rs).1.length ∧ List.Sublist ((partI (whyP atoms.length rs).1 (needI atoms.length rs (whyP atoms.length rs).1 (aa : Int))).drop i) ((whyP atoms.length rs).1.drop k) ∧ Le Go Gk2 ∧ RSl 1 EInt Gk2 (.slice oN atoms.length cN) (stI atoms.length (partI (whyP atoms.length rs).1 (needI atoms.length rs (whyP atoms.length rs).1 (aa : Int))) i) ∧ SS G w0 Gk2 [.blk b11 34 [.slice oQ (partI (whyP atoms.length rs).1 (needI atoms.length rs (whyP atoms.length rs).1 (aa : Int))).length cQ, .slice oU ([] : List Int).length cU], .blk b10 34 [.slice oS1 (whyP atoms.length rs).1.length cS1, .slice oH1 (whyP atoms.length rs).2.length cH1], .blk b8 26 [.slice oA atoms.length cA, .slice oR rs.length cR]] w) _ _ (by exact ⟨0, 0, oN, cN, Go, rfl, Nat.zero_le _, rfl, Nat.zero_le _, hsub, Le.refl _, hNn, hS⟩) ((Sub.cons rfl (Sub.cons rfl (Sub.cons rfl (Sub.cons rfl (Sub.cons rfl (Sub.cons rfl (Sub.cons rfl (Sub.cons rfl (Sub.cons rfl Sub.nil)))))))))) ?_
   clear hS
   rintro e w n ⟨k, i, oN, cN, Gk2, rfl, hi, rfl, hk, hsb, hlk, hNk, hS⟩
   refine cw_seq ?_
   refine cw_seq ?_
   refine cw_region ?_
   refine ol_pure rfl (op_move rfl) ?_
   refine ol_pure rfl (op_fieldAddr fld_34_0 rfl) ?_
   refine ol_load rfl (op_load1 one_32 rfl (fun w hw => (hw.bcell (i := 0) rfl).trans rfl)) hS ?_
   refine ol_pure rfl (op_len sl_32 rfl rfl) ?_
   refine ol_pure rfl (op_lss rfl rfl) ?_
   refine ol_nil ?_
   refine pq_then ?_
   refine cw_cond rfl (fun h52 => ?_) (fun h52 => ?_)
   ·
    skip
    try simp only [decide_eq_true_eq, decide_eq_false_iff_not, Bool.not_eq_true', Bool.not_eq_false', Bool.not_eq_eq_eq_not, Bool.not_true, Bool.not_false] at h52
    have hlt : i < (partI (whyP atoms.length rs).1 (needI atoms.length rs (whyP atoms.length rs).1 (aa : Int))).length := by omega
    obtain ⟨hoQ, _, _, ⟨vk, rfl, hvk, hrk⟩, hcells⟩ := hq1.el hlt
    obtain ⟨ov, cv, rfl, _, _⟩ := hvk.elim
    have hok := hpr i hlt
    have hnl := stI_len (n := atoms.length) (partI (whyP atoms.length rs).1 (needI atoms.length rs (whyP atoms.length rs).1 (aa : Int))) i
    have hdq : (partI (whyP atoms.length rs).1 (needI atoms.length rs (whyP atoms.length rs).1 (aa : Int))).drop i = (partI (whyP atoms.length rs).1 (needI atoms.length rs (whyP atoms.length rs).1 (aa : Int)))[i] :: (partI (whyP atoms.length rs).1 (needI atoms.length rs (whyP atoms.length rs).1 (aa : Int))).drop (i + 1) := List.drop_eq_getElem_cons hlt
    refine cw_skip ?_
    refine pq_then ?_
    refine cw_seq ?_
    refine cw_block ?_
    refine cw_seq ?_
    refine cw_block ?_
    refine cw_loop (fun e w n => ∃ (k : Nat), e = [(7, .bool true), (8, .pointer (some ⟨b8, 0, none⟩)), (9, .int .i64 (aa : Nat)), (10, .pointer (some ⟨b10, 0, none⟩)), (11, .pointer (some ⟨b11, 0, none⟩)), (12, .slice oM atoms.length cM), (13, .int .i64 (k : Nat)), (14, .slice oN atoms.length cN), (15, .int .i64 (i : Nat))] ∧ k ≤ (whyP atoms.length rs).1.length ∧ n = (whyP atoms.length rs).1.length - k ∧ List.Sublist ((partI (whyP atoms.length rs).1 (needI atoms.length rs (whyP atoms.length rs).1 (aa : Int))).drop i) ((whyP atoms.length rs).1.drop k) ∧ SS G w0 Gk2 [.blk b11 34 [.slice oQ (partI (whyP atoms.length rs).1 (needI atoms.length rs (whyP atoms.length rs).1 (aa : Int))).length cQ, .slice oU ([] : List Int).length cU], .blk b10 34 [.slice oS1 (whyP atoms.length rs).1.length cS1, .slice oH1 (whyP atoms.length rs).2.length cH1], .blk b8 26 [.slice oA atoms.length cA, .slice oR rs.length cR]] w) _ _ (by exact ⟨k, rfl, hk, rfl, hsb, hS⟩) ((Sub.cons rfl (Sub.cons rfl (Sub.cons rfl (Sub.cons rfl (Sub.cons rfl (Sub.cons rfl (Sub.cons rfl (Sub.cons rfl (Sub.cons rfl Sub.nil)))))))))) ?_
    clear hS
    rintro e w n ⟨k, rfl, hk, rfl, hsb, hS⟩
    refine cw_seq ?_
    refine cw_seq ?_
    refine al_start' hS (hS.take 2) (by kernel_rfl) rfl (fun w hS hT => ?_)
    refine al_take (i := 0) rfl (by kernel_rfl) (by kernel_rfl) (by kernel_rfl) rfl (fun _ _ _ h => h) (op_move rfl) rfl ?_
    refine al_take (i := 1) rfl (by kernel_rfl) (by kernel_rfl) (by kernel_rfl) rfl (fun _ _ _ h => h) (op_fieldAddr fld_34_0 rfl) rfl ?_
    refine al_load (i := 2) rfl (by kernel_rfl) (by kernel_rfl) (by kernel_rfl) rfl (fun _ _ _ h => h) (by exact op_load1 one_32 rfl (fun w hw => (hw.bcell (i := 1) rfl).trans rfl)) rfl hT ?_
    refine al_take (i := 3) rfl (by kernel_rfl) (by kernel_rfl) (by kernel_rfl) rfl (fun _ _ _ h => h) (op_len sl_32 rfl rfl) rfl ?_
    refine al_take (i := 4) rfl (by kernel_rfl) (by kernel_rfl) (by kernel_rfl) rfl (fun _ _ _ h => h) (op_lss rfl rfl) rfl ?_
    refine al_take (i := 5) rfl (by kernel_rfl) (by kernel_rfl) (by kernel_rfl) rfl (fun _ _ _ h => h) (op_move rfl) rfl ?_
    refine al_split (fun h60 => ?_) (fun h60 => ?_)
    ·
     skip
     try simp only [decide_eq_true_eq, decide_eq_false_iff_not, Bool.not_eq_true', Bool.not_eq_false', Bool.not_eq_eq_eq_not, Bool.not_true, Bool.not_false] at h60
     have hkl : k < (whyP atoms.length rs).1.length := by omega
     obtain ⟨hoP, _, _, ⟨vp, rfl, hvp, hrp⟩, hcellp⟩ := hs1.el hkl
     obtain ⟨op, cp, rfl, _, _⟩ := hvp.elim
     have hdl : (whyP atoms.length rs).1.drop k = (whyP atoms.length rs).1[k] :: (whyP atoms.length rs).1.drop (k + 1) := List.drop_eq_getElem_cons hkl
     refine al_gtake (i := 6) rfl (by kernel_rfl) (by kernel_rfl) (by kernel_rfl) rfl rfl rfl (fun _ _ _ h => h) (op_fieldAddr fld_34_0 rfl) rfl ?_
     refine al_gload (i := 7) rfl (by kernel_rfl) (by kernel_rfl) (by kernel_rfl) rfl rfl rfl (fun _ _ _ h => h) (by exact op_load1 one_32 rfl (fun w hw => (hw.bcell (i := 1) rfl).trans rfl)) rfl hT ?_
     refine al_gtake (i := 8) rfl (by kernel_rfl) (by kernel_rfl) (by kernel_rfl) rfl rfl rfl (fun _ _ _ h => h) (op_move rfl) rfl ?_
     refine al_gtake (i := 9) rfl (by kernel_rfl) (by kernel_rfl) (by kernel_rfl) rfl rfl rfl (fun _ _ _ h => h) (op_indexN sl_32 rfl rfl (by omega) hoP) rfl ?_
     refine al_gtake (i := 10) rfl (by kernel_rfl) (by kernel_rfl) (by kernel_rfl) rfl rfl rfl (fun _ _ _ h => h) (op_fieldAddr fld_37_0 rfl) rfl ?_
     refine al_gload (i := 11) rfl (by kernel_rfl) (by kernel_rfl) (by kernel_rfl) rfl rfl rfl (fun _ _ _ h => h) (by exact op_load1 one_3 rfl (fun w hw => hw.gcell (hlk.cell (hcellp 0 _ rfl)))) rfl hT ?_
     refine al_gtake (i := 12) rfl (by kernel_rfl) (by kernel_rfl) (by kernel_rfl) rfl rfl rfl (fun _ _ _ h => h) (op_fieldAddr fld_34_0 rfl) rfl ?_
     refine al_gload (i := 13) rfl (by kernel_rfl) (by kernel_rfl) (by kernel_rfl) rfl rfl rfl (fun _ _ _ h => h) (by exact op_load1 one_32 rfl (fun w hw => (hw.bcell (i := 0) rfl).trans rfl)) rfl hT ?_
     refine al_gtake (i := 14) rfl (by kernel_rfl) (by kernel_rfl) (by kernel_rfl) rfl rfl rfl (fun _ _ _ h => h) (op_move rfl) rfl ?_
     refine al_gtake (i := 15) rfl (by kernel_rfl) (by kernel_rfl) (by kernel_rfl) rfl rfl rfl (fun _ _ _ h => h) (op_indexN sl_32 rfl rfl (by omega) hoQ) rfl ?_
     refine al_gtake (i := 16) rfl (by kernel_rfl) (by kernel_rfl) (by kernel_rfl) rfl rfl rfl (fun _ _ _ h => h) (op_fieldAddr fld_37_0 rfl) rfl ?_
     refine al_gload (i := 17) rfl (by kernel_rfl) (by kernel_rfl) (by kernel_rfl) rfl rfl rfl (fun _ _ _ h => h) (by exact op_load1 one_3 rfl (fun w hw => hw.gcell (hlk.cell (hcells 0 _ rfl)))) rfl hT ?_
     refine al_gtake (i := 18) rfl (by kernel_rfl) (by kernel_rfl) (by kernel_rfl) rfl rfl rfl (fun _ _ _ h => h) (op_neq rfl rfl) rfl ?_
     refine al_gtake (i := 19) rfl (by kernel_rfl) (by kernel_rfl) (by kernel_rfl) rfl rfl rfl (fun _ _ _ h => h) (op_move rfl) rfl ?_
     refine al_split (fun h74 => ?_) (fun h74 => ?_)
     ·
      skip
      try simp only [decide_eq_true_eq, decide_eq_false_iff_not, Bool.not_eq_true', Bool.not_eq_false', Bool.not_eq_eq_eq_not, Bool.not_true, Bool.not_false] at h74
      refine al_gskip (i := 20) rfl (by kernel_rfl) (by kernel_rfl) (by kernel_rfl) rfl rfl rfl rfl (fun _ _ _ h => h) (fun _ => hT) ?_
      refine al_gskip (i := 21) rfl (by kernel_rfl) (by kernel_rfl) (by kernel_rfl) rfl rfl rfl rfl (fun _ _ _ h => h) (fun _ => hT) ?_
      refine al_gskip (i := 22) rfl (by kernel_rfl) (by kernel_rfl) (by kernel_rfl) rfl rfl rfl rfl (fun _ _ _ h => h) (fun _ => hT) ?_
      refine al_gskip (i := 23) rfl (by kernel_rfl) (by kernel_rfl) (by kernel_rfl) rfl rfl rfl rfl (fun _ _ _ h => h) (fun _ => hT) ?_
      refine al_gskip (i := 24) rfl (by kernel_rfl) (by kernel_rfl) (by kernel_rfl) rfl rfl rfl rfl (fun _ _ _ h => h) (fun _ => hT) ?_
      refine al_gskip (i := 25) rfl (by kernel_rfl) (by kernel_rfl) (by kernel_rfl) rfl rfl rfl rfl (fun _ _ _ h => h) (fun _ => hT) ?_
      refine al_gskip (i := 26) rfl (by kernel_rfl) (by kernel_rfl) (by kernel_rfl) rfl rfl rfl rfl (fun _ _ _ h => h) (fun _ => hT) ?_
      refine al_gskip (i := 27) rfl (by kernel_rfl) (by kernel_rfl) (by kernel_rfl) rfl rfl rfl rfl (fun _ _ _ h => h) (fun _ => hT) ?_
      refine al_gskip (i := 28) rfl (by kernel_rfl) (by kernel_rfl) (by kernel_rfl) rfl rfl rfl rfl (fun _ _ _ h => h) (fun _ => hT) ?_
      refine al_gskip (i := 29) rfl (by kernel_rfl) (by kernel_rfl) (by kernel_rfl) rfl rfl rfl rfl (fun _ _ _ h => h) (fun _ => hT) ?_
      refine al_gskip (i := 30) rfl (by kernel_rfl) (by kernel_rfl) (by kernel_rfl) rfl rfl rfl rfl (fun _ _ _ h => h) (fun _ => hT) ?_
      refine al_gskip (i := 31) rfl (by kernel_rfl) (by kernel_rfl) (by kernel_rfl) rfl rfl rfl rfl (fun _ _ _ h => h) (fun _ => hT) ?_
      refine al_gskip (i := 32) rfl (by kernel_rfl) (by kernel_rfl) (by kernel_rfl) rfl rfl rfl rfl (fun _ _ _ h => h) (fun _ => hT) ?_
      refine al_gskip (i := 33) rfl (by kernel_rfl) (by kernel_rfl) (by kernel_rfl) rfl rfl rfl rfl (fun _ _ _ h => h) (fun _ => hT) ?_
      refine al_gtake (i := 34) rfl (by kernel_rfl) (by kernel_rfl) (by kernel_rfl) rfl rfl rfl (fun _ _ _ h => h) (op_pick_t rfl rfl) rfl ?_
      refine al_take (i := 35) rfl (by kernel_rfl) (by kernel_rfl) (by kernel_rfl) rfl (fun _ _ _ h => h) (op_pick_t rfl rfl) rfl ?_
      refine al_done (by kernel_rfl) ?_
      refine pq_then ?_
      refine cw_cond_t rfl ?_
      refine cw_skip ?_
      refine pq_then ?_
      refine cw_block ?_
      refine cw_region ?_
      refine ol_pure rfl (op_move rfl) ?_
      refine ol_pure rfl (op_add rfl rfl (by omega) (by omega)) ?_
      refine ol_pure rfl (op_assign rfl) ?_
      refine ol_nil ?_
      refine pq_in_normal ?_
      refine pq_loop _ _ (by exact ⟨k + 1, rfl, by omega, rfl, (by
            rw [hdq, hdl] at hsb
            rw [hdq]
            exact sub_skip hsb fun he => h74 (by rw [he])), hS⟩) ((Sub.cons rfl (Sub.cons rfl (Sub.cons rfl (Sub.cons rfl (Sub.cons rfl (Sub.cons rfl (Sub.cons rfl (Sub.cons rfl (Sub.cons rfl Sub.nil)))))))))) (by omega)
     ·
      skip
      try simp only [decide_eq_true_eq, decide_eq_false_iff_not, Bool.not_eq_true', Bool.not_eq_false', Bool.not_eq_eq_eq_not, Bool.not_true, Bool.not_false] at h74
      refine al_gtake (i := 20) rfl (by kernel_rfl) (by kernel_rfl) (by kernel_rfl) rfl rfl rfl (fun _ _ _ h => h) (op_fieldAddr fld_34_0 rfl) rfl ?_
      refine al_gload (i := 21) rfl (by kernel_rfl) (by kernel_rfl) (by kernel_rfl) rfl rfl rfl (fun _ _ _ h => h) (by exact op_load1 one_32 rfl (fun w hw => (hw.bcell (i := 1) rfl).trans rfl)) rfl hT ?_
      refine al_gtake (i := 22) rfl (by kernel_rfl) (by kernel_rfl) (by kernel_rfl) rfl rfl rfl (fun _ _ _ h => h) (op_move rfl) rfl ?_
      refine al_gtake (i := 23) rfl (by kernel_rfl) (by kernel_rfl) (by kernel_rfl) rfl rfl rfl (fun _ _ _ h => h) (op_indexN sl_32 rfl rfl (by omega) hoP) rfl ?_
      refine al_gtake (i := 24) rfl (by kernel_rfl) (by kernel_rfl) (by kernel_rfl) rfl rfl rfl (fun _ _ _ h => h) (op_fieldAddr fld_37_1 rfl) rfl ?_
      refine al_gload (i := 25) rfl (by kernel_rfl) (by kernel_rfl) (by kernel_rfl) rfl rfl rfl (fun _ _ _ h => h) (by exact op_load1 one_28 rfl (fun w hw => hw.gcell (hlk.cell (hcellp 1 _ rfl)))) rfl hT ?_
      refine al_gtake (i := 26) rfl (by kernel_rfl) (by kernel_rfl) (by kernel_rfl) rfl rfl rfl (fun _ _ _ h => h) (op_fieldAddr fld_34_0 rfl) rfl ?_
      refine al_gload (i := 27) rfl (by kernel_rfl) (by kernel_rfl) (by kernel_rfl) rfl rfl rfl (fun _ _ _ h => h) (by exact op_load1 one_32 rfl (fun w hw => (hw.bcell (i := 0) rfl).trans rfl)) rfl hT ?_
      refine al_gtake (i := 28) rfl (by kernel_rfl) (by kernel_rfl) (by kernel_rfl) rfl rfl rfl (fun _ _ _ h => h) (op_move rfl) rfl ?_
      refine al_gtake (i := 29) rfl (by kernel_rfl) (by kernel_rfl) (by kernel_rfl) rfl rfl rfl (fun _ _ _ h => h) (op_indexN sl_32 rfl rfl (by omega) hoQ) rfl ?_
      refine al_gtake (i := 30) rfl (by kernel_rfl) (by kernel_rfl) (by kernel_rfl) rfl rfl rfl (fun _ _ _ h => h) (op_fieldAddr fld_37_1 rfl) rfl ?_
      refine al_gload (i := 31) rfl (by kernel_rfl) (by kernel_rfl) (by kernel_rfl) rfl rfl rfl (fun _ _ _ h => h) (by exact op_load1 one_28 rfl (fun w hw => hw.gcell (hlk.cell (hcells 1 _ rfl)))) rfl hT ?_
      refine al_gstep (i := 32) rfl (by kernel_rfl) rfl rfl rfl (op_call_sc hS cf_18 rfl (R21_Ints_c _ _ hS.hold _ _ _ _ (hvp.mono EInt.mono hlk) (hvk.mono EInt.mono hlk))) ?_
      clear hS
      rintro _ w ⟨rfl, hS⟩
      have hT := hT.back hS (by first | exact Le.refl _ | assumption) (fun x hx => by try simp only [List.take_succ_cons, List.take_zero, List.mem_cons, List.not_mem_nil, or_false] at hx; (rcases hx with rfl | rfl) <;> simp)
      refine ⟨fun _ _ => hT, ?_⟩
      refine al_gtake (i := 33) rfl (by kernel_rfl) (by kernel_rfl) (by kernel_rfl) rfl rfl rfl (fun _ _ _ h => h) (op_not rfl) rfl ?_
      refine al_gtake (i := 34) rfl (by kernel_rfl) (by kernel_rfl) (by kernel_rfl) rfl rfl rfl (fun _ _ _ h => h) (op_pick_f rfl rfl) rfl ?_
      refine al_take (i := 35) rfl (by kernel_rfl) (by kernel_rfl) (by kernel_rfl) rfl (fun _ _ _ h => h) (op_pick_t rfl rfl) rfl ?_
      refine al_done (by kernel_rfl) ?_
      refine pq_then ?_
      refine cw_cond rfl (fun h90 => ?_) (fun h90 => ?_)
      ·
       skip
       try simp only [decide_eq_true_eq, decide_eq_false_iff_not, Bool.not_eq_true', Bool.not_eq_false', Bool.not_eq_eq_eq_not, Bool.not_true, Bool.not_false] at h90
       refine cw_skip ?_
       refine pq_then ?_
       refine cw_block ?_
       refine cw_region ?_
       refine ol_pure rfl (op_move rfl) ?_
       refine ol_pure rfl (op_add rfl rfl (by omega) (by omega)) ?_
       refine ol_pure rfl (op_assign rfl) ?_
       refine ol_nil ?_
       refine pq_in_normal ?_
       refine pq_loop _ _ (by exact ⟨k + 1, rfl, by omega, rfl, (by
             rw [hdq, hdl] at hsb
             rw [hdq]
             exact sub_skip hsb fun he => h90 (by rw [he])), hS⟩) ((Sub.cons rfl (Sub.cons rfl (Sub.cons rfl (Sub.cons rfl (Sub.cons rfl (Sub.cons rfl (Sub.cons rfl (Sub.cons rfl (Sub.cons rfl Sub.nil)))))))))) (by omega)
      ·
       skip
       try simp only [decide_eq_true_eq, decide_eq_false_iff_not, Bool.not_eq_true', Bool.not_eq_false', Bool.not_eq_eq_eq_not, Bool.not_true, Bool.not_false] at h90
       refine cw_exit ?_
       refine pq_exit ?_
       refine pq_exit ?_
       refine pq_in_exit ?_
       refine pq_then ?_
       refine cw_seq ?_
       refine cw_seq ?_
       have hkl2 : k < (whyP atoms.length rs).1.length := by
         by_cases hh : k < (whyP atoms.length rs).1.length
         · exact hh
         · exfalso
           rw [hdq, List.drop_eq_nil_of_le (show (whyP atoms.length rs).1.length ≤ k by omega)] at hsb
           cases hsb
       refine al_start' hS (hS.take 3) (by kernel_rfl) rfl (fun w hS hT => ?_)
       refine al_take (i := 0) rfl (by kernel_rfl) (by kernel_rfl) (by kernel_rfl) rfl (fun _ _ _ h => h) (op_move rfl) rfl ?_
       refine al_take (i := 1) rfl (by kernel_rfl) (by kernel_rfl) (by kernel_rfl) rfl (fun _ _ _ h => h) (op_fieldAddr fld_34_0 rfl) rfl ?_
       refine al_load (i := 2) rfl (by kernel_rfl) (by kernel_rfl) (by kernel_rfl) rfl (fun _ _ _ h => h) (by exact op_load1 one_32 rfl (fun w hw => (hw.bcell (i := 1) rfl).trans rfl)) rfl hT ?_
       refine al_take (i := 3) rfl (by kernel_rfl) (by kernel_rfl) (by kernel_rfl) rfl (fun _ _ _ h => h) (op_len sl_32 rfl rfl) rfl ?_
       refine al_take (i := 4) rfl (by kernel_rfl) (by kernel_rfl) (by kernel_rfl) rfl (fun _ _ _ h => h) (op_val (op_geq rfl rfl) (congrArg Value.bool (decide_eq_false (by omega)))) rfl ?_
       refine al_take (i := 5) rfl (by kernel_rfl) (by kernel_rfl) (by kernel_rfl) rfl (fun _ _ _ h => h) (op_move rfl) rfl ?_
       refine al_gload (i := 6) rfl (by kernel_rfl) (by kernel_rfl) (by kernel_rfl) rfl rfl rfl (fun _ _ _ h => h) (by exact op_loadN agg_26 rfl (by rfl) (fun w hw k u hk => (hw.bcell (i := 2) rfl).trans hk)) rfl hT ?_
       refine al_gtake (i := 7) rfl (by kernel_rfl) (by kernel_rfl) (by kernel_rfl) rfl rfl rfl (fun _ _ _ h => h) (op_move rfl) rfl ?_
       refine al_gtake (i := 8) rfl (by kernel_rfl) (by kernel_rfl) (by kernel_rfl) rfl rfl rfl (fun _ _ _ h => h) (op_fieldAddr fld_34_0 rfl) rfl ?_
       refine al_gload (i := 9) rfl (by kernel_rfl) (by kernel_rfl) (by kernel_rfl) rfl rfl rfl (fun _ _ _ h => h) (by exact op_load1 one_32 rfl (fun w hw => (hw.bcell (i := 0) rfl).trans rfl)) rfl hT ?_
       refine al_gtake (i := 10) rfl (by kernel_rfl) (by kernel_rfl) (by kernel_rfl) rfl rfl rfl (fun _ _ _ h => h) (op_move rfl) rfl ?_
       refine al_gtake (i := 11) rfl (by kernel_rfl) (by kernel_rfl) (by kernel_rfl) rfl rfl rfl (fun _ _ _ h => h) (op_indexN sl_32 rfl rfl (by omega) hoQ) rfl ?_
       refine al_gload (i := 12) rfl (by kernel_rfl) (by kernel_rfl) (by kernel_rfl) rfl rfl rfl (fun _ _ _ h => h) (by exact op_loadN agg_37 rfl (by rfl) (fun w hw k u hk => hw.gcell (hlk.cell (hcells _ u hk)))) rfl hT ?_
       refine al_gstep (i := 13) rfl (by kernel_rfl) rfl rfl rfl (op_call_sc hS cf_24 rfl ((by have h9 := R21_Fits_c _ _ hS.hold ETriv.mono _ _ atoms rs (hA.mono ETriv.mono hlk) (hR.mono ERule.mono hlk) hP _ _ hNk hnl (partI (whyP atoms.length rs).1 (needI atoms.length rs (whyP atoms.length rs).1 (aa : Int)))[i] _ (hvk.mono EInt.mono hlk) hrk; rwa [hok] at h9))) ?_
       clear hS
       rintro _ w ⟨rfl, hS⟩
       have hT := hT.back hS (by first | exact Le.refl _ | assumption) (fun x hx => by try simp only [List.take_succ_cons, List.take_zero, List.mem_cons, List.not_mem_nil, or_false] at hx; (rcases hx with rfl | rfl | rfl) <;> simp)
       refine ⟨fun _ _ => hT, ?_⟩
       refine al_gtake (i := 14) rfl (by kernel_rfl) (by kernel_rfl) (by kernel_rfl) rfl rfl rfl (fun _ _ _ h => h) (op_not rfl) rfl ?_
       refine al_take (i := 15) rfl (by kernel_rfl) (by kernel_rfl) (by kernel_rfl) rfl (fun _ _ _ h => h) (op_pick_f rfl rfl) rfl ?_
       refine al_done (by kernel_rfl) ?_
       refine pq_then ?_
       refine cw_cond_f rfl ?_
       refine cw_skip ?_
       refine pq_then ?_
       refine cw_region ?_
       refine ol_pure rfl (op_move rfl) ?_
       refine ol_pure rfl (op_fieldAddr fld_34_0 rfl) ?_
       refine ol_load rfl (op_load1 one_32 rfl (fun w hw => (hw.bcell (i := 0) rfl).trans rfl)) hS ?_
       refine ol_pure rfl (op_move rfl) ?_
       refine ol_pure rfl (op_indexN sl_32 rfl rfl (by omega) hoQ) ?_
       refine ol_load rfl (op_loadN agg_37 rfl (by rfl) (fun w hw k u hk => hw.gcell (hlk.cell (hcells _ u hk)))) hS ?_
       refine ol_step rfl (op_call_fr hS cf_25 rfl (R21_Tell_c _ _ hS.hold _ _ hNk (partI (whyP atoms.length rs).1 (needI atoms.length rs (whyP atoms.length rs).1 (aa : Int)))[i] _ (hvk.mono EInt.mono hlk) hrk (stI_range _ _) (by omega) (fun a ha => by rw [hnl]; exact hpr.atoms hlt ha))) ?_
       clear hS
       rintro v115 w ⟨F115, Gt, hR115, hF115, hf115, hl115, hS⟩
       obtain ⟨oN2, cN2, rfl, _, _⟩ := hR115.elimN (n := atoms.length) (by rw [tellI_len, hnl])
       have hN2 := hR115.mono EInt.mono hf115
       rw [← stI_succ hlt] at hN2
       refine ol_pure rfl (op_assign rfl) ?_
       refine ol_nil ?_
       refine pq_in_normal ?_
       refine pq_then ?_
       refine cw_region ?_
       refine ol_pure rfl (op_move rfl) ?_
       refine ol_pure rfl (op_add rfl rfl (by omega) (by omega)) ?_
       refine ol_pure rfl (op_assign rfl) ?_
       refine ol_nil ?_
       refine pq_loop _ _ (by exact ⟨k, i + 1, oN2, cN2, Gt, rfl, by omega, rfl, hk, (by rw [hdq] at hsb; exact (List.sublist_cons_self _ _).trans hsb), hlk.trans hl115, hN2, hS⟩) ((Sub.cons rfl (Sub.cons rfl (Sub.cons rfl (Sub.cons rfl (Sub.cons rfl (Sub.cons rfl (Sub.cons rfl (Sub.cons rfl (Sub.cons rfl Sub.nil)))))))))) (by omega)
    ·
     skip
     try simp only [decide_eq_true_eq, decide_eq_false_iff_not, Bool.not_eq_true', Bool.not_eq_false', Bool.not_eq_eq_eq_not, Bool.not_true, Bool.not_false] at h60
     refine al_gskip (i := 6) rfl (by kernel_rfl) (by kernel_rfl) (by kernel_rfl) rfl rfl rfl rfl (fun _ _ _ h => h) (fun _ => hT) ?_
     refine al_gskip (i := 7) rfl (by kernel_rfl) (by kernel_rfl) (by kernel_rfl) rfl rfl rfl rfl (fun _ _ _ h => h) (fun _ => hT) ?_
     refine al_gskip (i := 8) rfl (by kernel_rfl) (by kernel_rfl) (by kernel_rfl) rfl rfl rfl rfl (fun _ _ _ h => h) (fun _ => hT) ?_
     refine al_gskip (i := 9) rfl (by kernel_rfl) (by kernel_rfl) (by kernel_rfl) rfl rfl rfl rfl (fun _ _ _ h => h) (fun _ => hT) ?_
     refine al_gskip (i := 10) rfl (by kernel_rfl) (by kernel_rfl) (by kernel_rfl) rfl rfl rfl rfl (fun _ _ _ h => h) (fun _ => hT) ?_
     refine al_gskip (i := 11) rfl (by kernel_rfl) (by kernel_rfl) (by kernel_rfl) rfl rfl rfl rfl (fun _ _ _ h => h) (fun _ => hT) ?_
     refine al_gskip (i := 12) rfl (by kernel_rfl) (by kernel_rfl) (by kernel_rfl) rfl rfl rfl rfl (fun _ _ _ h => h) (fun _ => hT) ?_
     refine al_gskip (i := 13) rfl (by kernel_rfl) (by kernel_rfl) (by kernel_rfl) rfl rfl rfl rfl (fun _ _ _ h => h) (fun _ => hT) ?_
     refine al_gskip (i := 14) rfl (by kernel_rfl) (by kernel_rfl) (by kernel_rfl) rfl rfl rfl rfl (fun _ _ _ h => h) (fun _ => hT) ?_
     refine al_gskip (i := 15) rfl (by kernel_rfl) (by kernel_rfl) (by kernel_rfl) rfl rfl rfl rfl (fun _ _ _ h => h) (fun _ => hT) ?_
     refine al_gskip (i := 16) rfl (by kernel_rfl) (by kernel_rfl) (by kernel_rfl) rfl rfl rfl rfl (fun _ _ _ h => h) (fun _ => hT) ?_
     refine al_gskip (i := 17) rfl (by kernel_rfl) (by kernel_rfl) (by kernel_rfl) rfl rfl rfl rfl (fun _ _ _ h => h) (fun _ => hT) ?_
     refine al_gskip (i := 18) rfl (by kernel_rfl) (by kernel_rfl) (by kernel_rfl) rfl rfl rfl rfl (fun _ _ _ h => h) (fun _ => hT) ?_
     refine al_gskip (i := 19) rfl (by kernel_rfl) (by kernel_rfl) (by kernel_rfl) rfl rfl rfl rfl (fun _ _ _ h => h) (fun _ => hT) ?_
     refine al_gundef (i := 20) rfl (by kernel_rfl) (by kernel_rfl) (by kernel_rfl) rfl rfl rfl (fun _ _ _ h => h) (fun _ => hT) ?_
     refine al_gundef (i := 21) rfl (by kernel_rfl) (by kernel_rfl) (by kernel_rfl) rfl rfl rfl (fun _ _ _ h => h) (fun _ => hT) ?_
     refine al_gundef (i := 22) rfl (by kernel_rfl) (by kernel_rfl) (by kernel_rfl) rfl rfl rfl (fun _ _ _ h => h) (fun _ => hT) ?_
     refine al_gundef (i := 23) rfl (by kernel_rfl) (by kernel_rfl) (by kernel_rfl) rfl rfl rfl (fun _ _ _ h => h) (fun _ => hT) ?_
     refine al_gundef (i := 24) rfl (by kernel_rfl) (by kernel_rfl) (by kernel_rfl) rfl rfl rfl (fun _ _ _ h => h) (fun _ => hT) ?_
     refine al_gundef (i := 25) rfl (by kernel_rfl) (by kernel_rfl) (by kernel_rfl) rfl rfl rfl (fun _ _ _ h => h) (fun _ => hT) ?_
     refine al_gundef (i := 26) rfl (by kernel_rfl) (by kernel_rfl) (by kernel_rfl) rfl rfl rfl (fun _ _ _ h => h) (fun _ => hT) ?_
     refine al_gundef (i := 27) rfl (by kernel_rfl) (by kernel_rfl) (by kernel_rfl) rfl rfl rfl (fun _ _ _ h => h) (fun _ => hT) ?_
     refine al_gundef (i := 28) rfl (by kernel_rfl) (by kernel_rfl) (by kernel_rfl) rfl rfl rfl (fun _ _ _ h => h) (fun _ => hT) ?_
     refine al_gundef (i := 29) rfl (by kernel_rfl) (by kernel_rfl) (by kernel_rfl) rfl rfl rfl (fun _ _ _ h => h) (fun _ => hT) ?_
     refine al_gundef (i := 30) rfl (by kernel_rfl) (by kernel_rfl) (by kernel_rfl) rfl rfl rfl (fun _ _ _ h => h) (fun _ => hT) ?_
     refine al_gundef (i := 31) rfl (by kernel_rfl) (by kernel_rfl) (by kernel_rfl) rfl rfl rfl (fun _ _ _ h => h) (fun _ => hT) ?_
     refine al_gundef (i := 32) rfl (by kernel_rfl) (by kernel_rfl) (by kernel_rfl) rfl rfl rfl (fun _ _ _ h => h) (fun _ => hT) ?_
     refine al_gundef (i := 33) rfl (by kernel_rfl) (by kernel_rfl) (by kernel_rfl) rfl rfl rfl (fun _ _ _ h => h) (fun _ => hT) ?_
     refine al_gskip (i := 34) rfl (by kernel_rfl) (by kernel_rfl) (by kernel_rfl) rfl rfl rfl rfl (fun _ _ _ h => h) (fun _ => hT) ?_
     refine al_take (i := 35) rfl (by kernel_rfl) (by kernel_rfl) (by kernel_rfl) rfl (fun _ _ _ h => h) (op_pick_f rfl rfl) rfl ?_
     refine al_done (by kernel_rfl) ?_
     refine pq_then ?_
     refine cw_cond_f rfl ?_
     refine cw_exit ?_
     refine pq_exit ?_
     refine pq_exit ?_
     refine pq_in_exit ?_
     refine pq_then ?_
     refine cw_seq ?_
     refine cw_seq ?_
     have hkl2 : k < (whyP atoms.length rs).1.length := by
       by_cases hh : k < (whyP atoms.length rs).1.length
       · exact hh
       · exfalso
         rw [hdq, List.drop_eq_nil_of_le (show (whyP atoms.length rs).1.length ≤ k by omega)] at hsb
         cases hsb
     refine al_start' hS (hS.take 3) (by kernel_rfl) rfl (fun w hS hT => ?_)
     refine al_take (i := 0) rfl (by kernel_rfl) (by kernel_rfl) (by kernel_rfl) rfl (fun _ _ _ h => h) (op_move rfl) rfl ?_
     refine al_take (i := 1) rfl (by kernel_rfl) (by kernel_rfl) (by kernel_rfl) rfl (fun _ _ _ h => h) (op_fieldAddr fld_34_0 rfl) rfl ?_
     refine al_load (i := 2) rfl (by kernel_rfl) (by kernel_rfl) (by kernel_rfl) rfl (fun _ _ _ h => h) (by exact op_load1 one_32 rfl (fun w hw => (hw.bcell (i := 1) rfl).trans rfl)) rfl hT ?_
     refine al_take (i := 3) rfl (by kernel_rfl) (by kernel_rfl) (by kernel_rfl) rfl (fun _ _ _ h => h) (op_len sl_32 rfl rfl) rfl ?_
     refine al_take (i := 4) rfl (by kernel_rfl) (by kernel_rfl) (by kernel_rfl) rfl (fun _ _ _ h => h) (op_val (op_geq rfl rfl) (congrArg Value.bool (decide_eq_false (by omega)))) rfl ?_
     refine al_take (i := 5) rfl (by kernel_rfl) (by kernel_rfl) (by kernel_rfl) rfl (fun _ _ _ h => h) (op_move rfl) rfl ?_
     refine al_gload (i := 6) rfl (by kernel_rfl) (by kernel_rfl) (by kernel_rfl) rfl rfl rfl (fun _ _ _ h => h) (by exact op_loadN agg_26 rfl (by rfl) (fun w hw k u hk => (hw.bcell (i := 2) rfl).trans hk)) rfl hT ?_
     refine al_gtake (i := 7) rfl (by kernel_rfl) (by kernel_rfl) (by kernel_rfl) rfl rfl rfl (fun _ _ _ h => h) (op_move rfl) rfl ?_
     refine al_gtake (i := 8) rfl (by kernel_rfl) (by kernel_rfl) (by kernel_rfl) rfl rfl rfl (fun _ _ _ h => h) (op_fieldAddr fld_34_0 rfl) rfl ?_
     refine al_gload (i := 9) rfl (by kernel_rfl) (by kernel_rfl) (by kernel_rfl) rfl rfl rfl (fun _ _ _ h => h) (by exact op_load1 one_32 rfl (fun w hw => (hw.bcell (i := 0) rfl).trans rfl)) rfl hT ?_
     refine al_gtake (i := 10) rfl (by kernel_rfl) (by kernel_rfl) (by kernel_rfl) rfl rfl rfl (fun _ _ _ h => h) (op_move rfl) rfl ?_
     refine al_gtake (i := 11) rfl (by kernel_rfl) (by kernel_rfl) (by kernel_rfl) rfl rfl rfl (fun _ _ _ h => h) (op_indexN sl_32 rfl rfl (by omega) hoQ) rfl ?_
     refine al_gload (i := 12) rfl (by kernel_rfl) (by kernel_rfl) (by kernel_rfl) rfl rfl rfl (fun _ _ _ h => h) (by exact op_loadN agg_37 rfl (by rfl) (fun w hw k u hk => hw.gcell (hlk.cell (hcells _ u hk)))) rfl hT ?_
     refine al_gstep (i := 13) rfl (by kernel_rfl) rfl rfl rfl (op_call_sc hS cf_24 rfl ((by have h9 := R21_Fits_c _ _ hS.hold ETriv.mono _ _ atoms rs (hA.mono ETriv.mono hlk) (hR.mono ERule.mono hlk) hP _ _ hNk hnl (partI (whyP atoms.length rs).1 (needI atoms.length rs (whyP atoms.length rs).1 (aa : Int)))[i] _ (hvk.mono EInt.mono hlk) hrk; rwa [hok] at h9))) ?_
     clear hS
     rintro _ w ⟨rfl, hS⟩
     have hT := hT.back hS (by first | exact Le.refl _ | assumption) (fun x hx => by try simp only [List.take_succ_cons, List.take_zero, List.mem_cons, List.not_mem_nil, or_false] at hx; (rcases hx with rfl | rfl | rfl) <;> simp)
     refine ⟨fun _ _ => hT, ?_⟩
     refine al_gtake (i := 14) rfl (by kernel_rfl) (by kernel_rfl) (by kernel_rfl) rfl rfl rfl (fun _ _ _ h => h) (op_not rfl) rfl ?_
     refine al_take (i := 15) rfl (by kernel_rfl) (by kernel_rfl) (by kernel_rfl) rfl (fun _ _ _ h => h) (op_pick_f rfl rfl) rfl ?_
     refine al_done (by kernel_rfl) ?_
     refine pq_then ?_
     refine cw_cond_f rfl ?_
     refine cw_skip ?_
     refine pq_then ?_
     refine cw_region ?_
     refine ol_pure rfl (op_move rfl) ?_
     refine ol_pure rfl (op_fieldAddr fld_34_0 rfl) ?_
     refine ol_load rfl (op_load1 one_32 rfl (fun w hw => (hw.bcell (i := 0) rfl).trans rfl)) hS ?_
     refine ol_pure rfl (op_move rfl) ?_
     refine ol_pure rfl (op_indexN sl_32 rfl rfl (by omega) hoQ) ?_
     refine ol_load rfl (op_loadN agg_37 rfl (by rfl) (fun w hw k u hk => hw.gcell (hlk.cell (hcells _ u hk)))) hS ?_
     refine ol_step rfl (op_call_fr hS cf_25 rfl (R21_Tell_c _ _ hS.hold _ _ hNk (partI (whyP atoms.length rs).1 (needI atoms.length rs (whyP atoms.length rs).1 (aa : Int)))[i] _ (hvk.mono EInt.mono hlk) hrk (stI_range _ _) (by omega) (fun a ha => by rw [hnl]; exact hpr.atoms hlt ha))) ?_
     clear hS
     rintro v115 w ⟨F115, Gt, hR115, hF115, hf115, hl115, hS⟩
     obtain ⟨oN2, cN2, rfl, _, _⟩ := hR115.elimN (n := atoms.length) (by rw [tellI_len, hnl])
     have hN2 := hR115.mono EInt.mono hf115
     rw [← stI_succ hlt] at hN2
     refine ol_pure rfl (op_assign rfl) ?_
     refine ol_nil ?_
     refine pq_in_normal ?_
     refine pq_then ?_
     refine cw_region ?_
     refine ol_pure rfl (op_move rfl) ?_
     refine ol_pure rfl (op_add rfl rfl (by omega) (by omega)) ?_
     refine ol_pure rfl (op_assign rfl) ?_
     refine ol_nil ?_
     refine pq_loop _ _ (by exact ⟨k, i + 1, oN2, cN2, Gt, rfl, by omega, rfl, hk, (by rw [hdq] at hsb; exact (List.sublist_cons_self _ _).trans hsb), hlk.trans hl115, hN2, hS⟩) ((Sub.cons rfl (Sub.cons rfl (Sub.cons rfl (Sub.cons rfl (Sub.cons rfl (Sub.cons rfl (Sub.cons rfl (Sub.cons rfl (Sub.cons rfl Sub.nil)))))))))) (by omega)
   ·
    skip
    try simp only [decide_eq_true_eq, decide_eq_false_iff_not, Bool.not_eq_true', Bool.not_eq_false', Bool.not_eq_eq_eq_not, Bool.not_true, Bool.not_false] at h52
    have hie : i = (partI (whyP atoms.length rs).1 (needI atoms.length rs (whyP atoms.length rs).1 (aa : Int))).length := by omega
    have hnl2 : aa < (stI atoms.length (partI (whyP atoms.length rs).1 (needI atoms.length rs (whyP atoms.length rs).1 (aa : Int))) i).length := by rw [stI_len]; exact hal
    obtain ⟨hoN, hcN, _⟩ := hNk.int hnl2
    have hsame := part_same hwr.1 hP hpt ha0 ha1
    obtain ⟨hlast, hlm⟩ := part_last hwr.1 hP hpt
    obtain ⟨hoQ, _, _, ⟨vk, rfl, hvk, hrk⟩, hcells⟩ := hq1.el hlast
    obtain ⟨ov, cv, rfl, _, _⟩ := hvk.elim
    have hfin : (stI atoms.length (partI (whyP atoms.length rs).1 (needI atoms.length rs (whyP atoms.length rs).1 (aa : Int))) i)[aa] = (knownI atoms.length (whyP atoms.length rs).1)[aa] := by
      rw [← hie, hva] at hsame
      rw [← val_at' hnl2]
      exact hsame
    refine cw_exit ?_
    refine pq_exit ?_
    refine pq_exit ?_
    refine pq_in_exit ?_
    refine pq_then ?_
    refine cw_seq ?_
    refine al_start' hS (hS.take 1) (by kernel_rfl) rfl (fun w hS hT => ?_)
    refine al_take (i := 0) rfl (by kernel_rfl) (by kernel_rfl) (by kernel_rfl) rfl (fun _ _ _ h => h) (op_move rfl) rfl ?_
    refine al_take (i := 1) rfl (by kernel_rfl) (by kernel_rfl) (by kernel_rfl) rfl (fun _ _ _ h => h) (op_move rfl) rfl ?_
    refine al_take (i := 2) rfl (by kernel_rfl) (by kernel_rfl) (by kernel_rfl) rfl (fun _ _ _ h => h) (op_indexN sl_28 rfl rfl (by omega) hoN) rfl ?_
    refine al_load (i := 3) rfl (by kernel_rfl) (by kernel_rfl) (by kernel_rfl) rfl (fun _ _ _ h => h) (by exact op_load1 one_3 rfl (fun w hw => hw.gcell hcN)) rfl hT ?_
    refine al_take (i := 4) rfl (by kernel_rfl) (by kernel_rfl) (by kernel_rfl) rfl (fun _ _ _ h => h) (op_move rfl) rfl ?_
    refine al_take (i := 5) rfl (by kernel_rfl) (by kernel_rfl) (by kernel_rfl) rfl (fun _ _ _ h => h) (op_move rfl) rfl ?_
    refine al_take (i := 6) rfl (by kernel_rfl) (by kernel_rfl) (by kernel_rfl) rfl (fun _ _ _ h => h) (op_indexN sl_28 rfl rfl (by omega) hoM) rfl ?_
    refine al_load (i := 7) rfl (by kernel_rfl) (by kernel_rfl) (by kernel_rfl) rfl (fun _ _ _ h => h) (by exact op_load1 one_3 rfl (fun w hw => hw.gcell (hlk.cell hcM))) rfl hT ?_
    refine al_take (i := 8) rfl (by kernel_rfl) (by kernel_rfl) (by kernel_rfl) rfl (fun _ _ _ h => h) (op_eqlT rfl rfl hfin) rfl ?_
    refine al_take (i := 9) rfl (by kernel_rfl) (by kernel_rfl) (by kernel_rfl) rfl (fun _ _ _ h => h) (op_move rfl) rfl ?_
    refine al_gtake (i := 10) rfl (by kernel_rfl) (by kernel_rfl) (by kernel_rfl) rfl rfl rfl (fun _ _ _ h => h) (op_fieldAddr fld_34_1 rfl) rfl ?_
    refine al_gload (i := 11) rfl (by kernel_rfl) (by kernel_rfl) (by kernel_rfl) rfl rfl rfl (fun _ _ _ h => h) (by exact op_load1 one_28 rfl (fun w hw => (hw.bcell (i := 0) rfl).trans rfl)) rfl hT ?_
    refine al_gtake (i := 12) rfl (by kernel_rfl) (by kernel_rfl) (by kernel_rfl) rfl rfl rfl (fun _ _ _ h => h) (op_len sl_28 rfl rfl) rfl ?_
    refine al_gtake (i := 13) rfl (by kernel_rfl) (by kernel_rfl) (by kernel_rfl) rfl rfl rfl (fun _ _ _ h => h) (op_eqlT rfl rfl rfl) rfl ?_
    refine al_take (i := 14) rfl (by kernel_rfl) (by kernel_rfl) (by kernel_rfl) rfl (fun _ _ _ h => h) (op_pick_t rfl rfl) rfl ?_
    refine al_take (i := 15) rfl (by kernel_rfl) (by kernel_rfl) (by kernel_rfl) rfl (fun _ _ _ h => h) (op_move rfl) rfl ?_
    refine al_gtake (i := 16) rfl (by kernel_rfl) (by kernel_rfl) (by kernel_rfl) rfl rfl rfl (fun _ _ _ h => h) (op_fieldAddr fld_34_0 rfl) rfl ?_
    refine al_gload (i := 17) rfl (by kernel_rfl) (by kernel_rfl) (by kernel_rfl) rfl rfl rfl (fun _ _ _ h => h) (by exact op_load1 one_32 rfl (fun w hw => (hw.bcell (i := 0) rfl).trans rfl)) rfl hT ?_
    refine al_gtake (i := 18) rfl (by kernel_rfl) (by kernel_rfl) (by kernel_rfl) rfl rfl rfl (fun _ _ _ h => h) (op_len sl_32 rfl rfl) rfl ?_
    refine al_gtake (i := 19) rfl (by kernel_rfl) (by kernel_rfl) (by kernel_rfl) rfl rfl rfl (fun _ _ _ h => h) (op_val (op_gtr rfl rfl) (congrArg Value.bool (decide_eq_true (by omega)))) rfl ?_
    refine al_take (i := 20) rfl (by kernel_rfl) (by kernel_rfl) (by kernel_rfl) rfl (fun _ _ _ h => h) (op_pick_t rfl rfl) rfl ?_
    refine al_take (i := 21) rfl (by kernel_rfl) (by kernel_rfl) (by kernel_rfl) rfl (fun _ _ _ h => h) (op_move rfl) rfl ?_
    refine al_gtake (i := 22) rfl (by kernel_rfl) (by kernel_rfl) (by kernel_rfl) rfl rfl rfl (fun _ _ _ h => h) (op_fieldAddr fld_34_0 rfl) rfl ?_
    refine al_gload (i := 23) rfl (by kernel_rfl) (by kernel_rfl) (by kernel_rfl) rfl rfl rfl (fun _ _ _ h => h) (by exact op_load1 one_32 rfl (fun w hw => (hw.bcell (i := 0) rfl).trans rfl)) rfl hT ?_
    refine al_gtake (i := 24) rfl (by kernel_rfl) (by kernel_rfl) (by kernel_rfl) rfl rfl rfl (fun _ _ _ h => h) (op_fieldAddr fld_34_0 rfl) rfl ?_
    refine al_gload (i := 25) rfl (by kernel_rfl) (by kernel_rfl) (by kernel_rfl) rfl rfl rfl (fun _ _ _ h => h) (by exact op_load1 one_32 rfl (fun w hw => (hw.bcell (i := 0) rfl).trans rfl)) rfl hT ?_
    refine al_gtake (i := 26) rfl (by kernel_rfl) (by kernel_rfl) (by kernel_rfl) rfl rfl rfl (fun _ _ _ h => h) (op_len sl_32 rfl rfl) rfl ?_
    refine al_gtake (i := 27) rfl (by kernel_rfl) (by kernel_rfl) (by kernel_rfl) rfl rfl rfl (fun _ _ _ h => h) (op_val (op_sub rfl rfl (by omega) (by omega)) (v' := .int .i64 (((partI (whyP atoms.length rs).1 (needI atoms.length rs (whyP atoms.length rs).1 (aa : Int))).length - 1 : Nat) : Int)) (congrArg (Value.int .i64) (by omega))) rfl ?_
    refine al_gtake (i := 28) rfl (by kernel_rfl) (by kernel_rfl) (by kernel_rfl) rfl rfl rfl (fun _ _ _ h => h) (op_indexN sl_32 rfl rfl (by omega) hoQ) rfl ?_
    refine al_gtake (i := 29) rfl (by kernel_rfl) (by kernel_rfl) (by kernel_rfl) rfl rfl rfl (fun _ _ _ h => h) (op_fieldAddr fld_37_1 rfl) rfl ?_
    refine al_gload (i := 30) rfl (by kernel_rfl) (by kernel_rfl) (by kernel_rfl) rfl rfl rfl (fun _ _ _ h => h) (by exact op_load1 one_28 rfl (fun w hw => hw.gcell (hlk.cell (hcells 1 _ rfl)))) rfl hT ?_
    refine al_gtake (i := 31) rfl (by kernel_rfl) (by kernel_rfl) (by kernel_rfl) rfl rfl rfl (fun _ _ _ h => h) (op_move rfl) rfl ?_
    refine al_gstep (i := 32) rfl (by kernel_rfl) rfl rfl rfl (op_call_sc hS cf_28 rfl ((by have h9 := R21_In_c _ _ hS.hold _ _ (aa : Int) (hvk.mono EInt.mono hlk); rwa [decide_eq_true hlm] at h9))) ?_
    clear hS
    rintro _ w ⟨rfl, hS⟩
    have hT := hT.back hS (by first | exact Le.refl _ | assumption) (fun x hx => by try simp only [List.take_succ_cons, List.take_zero, List.mem_cons, List.not_mem_nil, or_false] at hx; (rcases hx with rfl) <;> simp)
    refine ⟨fun _ _ => hT, ?_⟩
    refine al_take (i := 33) rfl (by kernel_rfl) (by kernel_rfl) (by kernel_rfl) rfl (fun _ _ _ h => h) (op_pick_t rfl rfl) rfl ?_
    refine al_take (i := 34) rfl (by kernel_rfl) (by kernel_rfl) (by kernel_rfl) rfl (fun _ _ _ h => h) (op_move rfl) rfl ?_
    refine al_gtake (i := 35) rfl (by kernel_rfl) (by kernel_rfl) (by kernel_rfl) rfl rfl rfl (fun _ _ _ h => h) (op_move rfl) rfl ?_
    refine al_take (i := 36) rfl (by kernel_rfl) (by kernel_rfl) (by kernel_rfl) rfl (fun _ _ _ h => h) (op_pick_t rfl rfl) rfl ?_
    refine al_take (i := 37) rfl (by kernel_rfl) (by kernel_rfl) (by kernel_rfl) rfl (fun _ _ _ h => h) (op_assign rfl) rfl ?_
    refine al_done (by kernel_rfl) ?_
    refine pq_then ?_
    refine cw_ret ?_
    refine ret1 rfl rfl ?_
    exact hS.sc_b rfl
end Go.Proofs.Ytmkgechdfimfnaa.K
