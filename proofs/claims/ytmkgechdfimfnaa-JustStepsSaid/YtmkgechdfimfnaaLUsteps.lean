/-
  JustSteps: its walk.
  No condition but the premises that each theorem names.
-/
import Derived.Test.YtmkgechdfimfnaaLJhead
import Derived.Test.YtmkgechdfimfnaaPls
import Derived.Test.YtmkgechdfimfnaaJwhy
namespace Go.Proofs.Ytmkgechdfimfnaa.K
open Go Go.RowKit
set_option linter.unusedVariables false
set_option linter.unusedSimpArgs false

open Pl

set_option maxRecDepth 100000 in
set_option maxHeartbeats 8000000 in

theorem L21_JustSteps_c (G : GH) (w0 : World) (hG : Holds G w0) (v : Value) (l : List Rule) (h1 : RSl 3 ERule G v l) (z : Int) (hz : 0 ≤ z ∧ z ≤ 255)  :
   Calls Try.prog 6 #[v, .int .u8 z] w0 (Sc w0 (.bool true)) := by
 refine enter Try.func6 rfl (N := 74) rfl (Nat.le_of_ble_eq_true rfl) ?_
 have hS := SS.init hG
 refine cw_seq ?_
 refine cw_region ?_
 refine ol_pure rfl (op_assign rfl) ?_
 refine ol_nil ?_
 refine pq_then ?_
 refine cw_seq ?_
 refine cw_region ?_
 refine ol_step rfl (op_call_sc hS cf_10 rfl (L21_head_c G _ hS.hold)) ?_
 clear hS
 rintro _ w ⟨rfl, hS⟩
 refine ol_pure rfl (op_assign rfl) ?_
 refine ol_nil ?_
 refine pq_then ?_
 refine cw_seq ?_
 refine cw_region ?_
 refine ol_pure rfl (op_move rfl) ?_
 refine ol_pure rfl (op_move rfl) ?_
 refine ol_step rfl (op_call_rt hS cf_11 rfl (fun _ => .inr rfl) (madeMono ETriv.mono) (R18_Made_c _ _ hS.hold v l h1 z hz)) ?_
 clear hS
 rintro v13 w ⟨Gm, hl13, hR13, hS⟩
 obtain ⟨va, vr, rfl, hA, hR⟩ := hR13
 have hmr := madeN_range z
 have hok := madeR_ok l hmr.1 hmr.2
 obtain ⟨atoms, hat⟩ : ∃ atoms : List Unit, atoms = List.replicate (madeN z) () := ⟨_, rfl⟩
 have hal : atoms.length = madeN z := by rw [hat]; simp
 rw [← hat] at hA
 have hP : PrOk atoms.length (madeR l (madeN z)) := by rw [hal]; exact hok.1
 have hNg := hok.2
 rw [← hal] at hmr
 clear hok hal hat
 generalize madeR l (madeN z) = rs at hR hP hNg
 obtain ⟨oA, cA, rfl, _, _⟩ := hA.elim
 obtain ⟨oR, cR, rfl, _, _⟩ := hR.elim
 have hwr := why_runs hP
 have hPn := hP.n_le
 have hPm := hP.m_le
 have hsl := hwr.1.len
 have hlo := hwr.1.lean hP
 have hsm : ∀ s ∈ (whyP atoms.length rs).1, s.atoms.length ≤ 1000 := fun s hs => by have := hwr.1.small s hs; omega
 have hng : ∀ r ∈ rs, r.neg.length ≤ 1000 := fun r hr => by have := (hNg r hr).2; omega
 
 refine ol_step rfl (op_alloc hS el_26 rfl) ?_
 clear hS
 rintro _ w ⟨b6, rfl, hS⟩
 refine ol_step0  (op_storeN (j := 0) hS sz_26 rfl rfl rfl rfl rfl (by simp [Value.oneCell'])) ?_
 clear hS
 rintro _ w hS; (try simp only [List.nil_append, List.cons_append, List.set] at hS)
 refine ol_nil ?_
 refine pq_then ?_
 refine cw_seq ?_
 refine al_start' hS (hS.take 1) (by kernel_rfl) rfl (fun w hS hT => ?_)
 refine al_load (i := 0) rfl (by kernel_rfl) (by kernel_rfl) (by kernel_rfl) rfl (fun _ _ _ h => h) (by exact op_loadN agg_26 rfl (by rfl) (fun w hw k u hk => (hw.bcell (i := 0) rfl).trans hk)) rfl hT ?_
 refine al_load (i := 2) rfl (by kernel_rfl) (by kernel_rfl) (by kernel_rfl) rfl (fun _ _ _ h => h) (by exact op_loadN agg_26 rfl (by rfl) (fun w hw k u hk => (hw.bcell (i := 0) rfl).trans hk)) rfl hT ?_
 refine al_meet (fuel2 := 2) (ds2 := [4, 3, 2, 1, 0]) (fun e w => ∃ oS1 cS1 oH1 cH1 oM cM b7 Gd, e = [(5, .bool true), (6, .pointer (some ⟨b6, 0, none⟩)), (7, .pointer (some ⟨b7, 0, none⟩)), (15, .agg #[.slice oS1 (whyP atoms.length rs).1.length cS1, .slice oH1 (whyP atoms.length rs).2.length cH1]), (17, .slice oM atoms.length cM)] ∧ Le Gm Gd ∧ RSl 2 EStep Gd (.slice oS1 (whyP atoms.length rs).1.length cS1) (whyP atoms.length rs).1 ∧ RSl 1 EInt Gd (.slice oH1 (whyP atoms.length rs).2.length cH1) (whyP atoms.length rs).2 ∧ RSl 1 EInt Gd (.slice oM atoms.length cM) (startI atoms.length) ∧ SS G w0 Gd [.blk b7 34 [.slice none 0 0, .slice none 0 0], .blk b6 26 [.slice oA atoms.length cA, .slice oR rs.length cR]] w) (fun K3 => ?_) ?_
 ·
  skip
  refine al_two (i := 1) (j := 4) (by kernel_rfl) (fun a ha => ?_) (fun a ha => ?_)
  ·
   skip
   refine wpOp_of_opk (i := 1) rfl ha (op_call_rt hS cf_13 rfl (fun _ => .inr rfl) (whyMono) (just_Why_c _ _ hS.hold ETriv.mono _ _ atoms rs hA hR hP)) ?_
   clear hS
   rintro v15 w ⟨Gw, hl15, hR15, hS⟩
   obtain ⟨vs1, vh1, rfl, hs1, hh1⟩ := hR15
   obtain ⟨oS1, cS1, rfl, _, _⟩ := hs1.elim
   obtain ⟨oH1, cH1, rfl, _, _⟩ := hh1.elim
   replace hA := hA.mono ETriv.mono hl15
   replace hR := hR.mono ERule.mono hl15
   have hT := hT.back hS (by first | exact Le.refl _ | assumption) (fun x hx => by try simp only [List.take_succ_cons, List.take_zero, List.mem_cons, List.not_mem_nil, or_false] at hx; (rcases hx with rfl) <;> simp)
   refine ⟨fun _ _ => hT, ?_⟩
   refine al_at ?_ (ha.put (blt_lt rfl) _)
   refine al_two (i := 3) (j := 4) (by kernel_rfl) (fun a ha => ?_) (fun a ha => ?_)
   ·
    skip
    refine wpOp_of_opk (i := 3) rfl ha (op_call_fr hS cf_23 rfl (R21_Open_c _ _ hS.hold _ _ atoms hA ⟨_, _, _, rfl⟩ (by omega))) ?_
    clear hS
    rintro v17 w ⟨F17, Go, hR17, hF17, hf17, hl17, hS⟩
    obtain ⟨oM, cM, rfl, _, _⟩ := hR17.elimN (n := atoms.length) (by simp [startI])
    have hMm := hR17.mono EInt.mono hf17
    have hc1 := hl15.trans hl17
    replace hA := hA.mono ETriv.mono hl17
    replace hR := hR.mono ERule.mono hl17
    replace hs1 := hs1.mono EStep.mono hl17
    replace hh1 := hh1.mono EInt.mono hl17
    have hT := hT.back hS (by first | exact Le.refl _ | assumption) (fun x hx => by try simp only [List.take_succ_cons, List.take_zero, List.mem_cons, List.not_mem_nil, or_false] at hx; (rcases hx with rfl) <;> simp)
    refine ⟨fun _ _ => hT, ?_⟩
    refine al_at ?_ (ha.put (blt_lt rfl) _)
    refine al_step (i := 4) rfl (by kernel_rfl) rfl (op_alloc hS el_34 rfl) ?_
    clear hS
    rintro _ w ⟨b7, rfl, hS⟩
    have hT := hT.back hS (by first | exact Le.refl _ | assumption) (fun x hx => by try simp only [List.take_succ_cons, List.take_zero, List.mem_cons, List.not_mem_nil, or_false] at hx; (rcases hx with rfl) <;> simp)
    refine ⟨fun _ _ => hT, ?_⟩
    exact K3 _ _ _ _ (by kernel_rfl) (by exact ⟨oS1, cS1, oH1, cH1, oM, cM, b7, Go, rfl, hc1, hs1, hh1, hMm, hS⟩) ((Sub.cons rfl (Sub.cons rfl (Sub.cons rfl (Sub.cons rfl (Sub.cons rfl Sub.nil))))))
   ·
    skip
    refine wpOp_of_opk (i := 4) rfl ha (op_alloc hS el_34 rfl) ?_
    clear hS
    rintro _ w ⟨b7, rfl, hS⟩
    have hT := hT.back hS (by first | exact Le.refl _ | assumption) (fun x hx => by try simp only [List.take_succ_cons, List.take_zero, List.mem_cons, List.not_mem_nil, or_false] at hx; (rcases hx with rfl) <;> simp)
    refine ⟨fun _ _ => hT, ?_⟩
    refine al_at ?_ (ha.put (blt_lt rfl) _)
    refine al_step (i := 3) rfl (by kernel_rfl) rfl (op_call_fr hS cf_23 rfl (R21_Open_c _ _ hS.hold _ _ atoms hA ⟨_, _, _, rfl⟩ (by omega))) ?_
    clear hS
    rintro v17 w ⟨F17, Go, hR17, hF17, hf17, hl17, hS⟩
    obtain ⟨oM, cM, rfl, _, _⟩ := hR17.elimN (n := atoms.length) (by simp [startI])
    have hMm := hR17.mono EInt.mono hf17
    have hc1 := hl15.trans hl17
    replace hA := hA.mono ETriv.mono hl17
    replace hR := hR.mono ERule.mono hl17
    replace hs1 := hs1.mono EStep.mono hl17
    replace hh1 := hh1.mono EInt.mono hl17
    have hT := hT.back hS (by first | exact Le.refl _ | assumption) (fun x hx => by try simp only [List.take_succ_cons, List.take_zero, List.mem_cons, List.not_mem_nil, or_false] at hx; (rcases hx with rfl) <;> simp)
    refine ⟨fun _ _ => hT, ?_⟩
    exact K3 _ _ _ _ (by kernel_rfl) (by exact ⟨oS1, cS1, oH1, cH1, oM, cM, b7, Go, rfl, hc1, hs1, hh1, hMm, hS⟩) ((Sub.cons rfl (Sub.cons rfl (Sub.cons rfl (Sub.cons rfl (Sub.cons rfl Sub.nil))))))
  ·
   skip
   refine wpOp_of_opk (i := 4) rfl ha (op_alloc hS el_34 rfl) ?_
   clear hS
   rintro _ w ⟨b7, rfl, hS⟩
   have hT := hT.back hS (by first | exact Le.refl _ | assumption) (fun x hx => by try simp only [List.take_succ_cons, List.take_zero, List.mem_cons, List.not_mem_nil, or_false] at hx; (rcases hx with rfl) <;> simp)
   refine ⟨fun _ _ => hT, ?_⟩
   refine al_at ?_ (ha.put (blt_lt rfl) _)
   refine al_step (i := 1) rfl (by kernel_rfl) rfl (op_call_rt hS cf_13 rfl (fun _ => .inr rfl) (whyMono) (just_Why_c _ _ hS.hold ETriv.mono _ _ atoms rs hA hR hP)) ?_
   clear hS
   rintro v15 w ⟨Gw, hl15, hR15, hS⟩
   obtain ⟨vs1, vh1, rfl, hs1, hh1⟩ := hR15
   obtain ⟨oS1, cS1, rfl, _, _⟩ := hs1.elim
   obtain ⟨oH1, cH1, rfl, _, _⟩ := hh1.elim
   replace hA := hA.mono ETriv.mono hl15
   replace hR := hR.mono ERule.mono hl15
   have hT := hT.back hS (by first | exact Le.refl _ | assumption) (fun x hx => by try simp only [List.take_succ_cons, List.take_zero, List.mem_cons, List.not_mem_nil, or_false] at hx; (rcases hx with rfl) <;> simp)
   refine ⟨fun _ _ => hT, ?_⟩
   refine al_step (i := 3) rfl (by kernel_rfl) rfl (op_call_fr hS cf_23 rfl (R21_Open_c _ _ hS.hold _ _ atoms hA ⟨_, _, _, rfl⟩ (by omega))) ?_
   clear hS
   rintro v17 w ⟨F17, Go, hR17, hF17, hf17, hl17, hS⟩
   obtain ⟨oM, cM, rfl, _, _⟩ := hR17.elimN (n := atoms.length) (by simp [startI])
   have hMm := hR17.mono EInt.mono hf17
   have hc1 := hl15.trans hl17
   replace hA := hA.mono ETriv.mono hl17
   replace hR := hR.mono ERule.mono hl17
   replace hs1 := hs1.mono EStep.mono hl17
   replace hh1 := hh1.mono EInt.mono hl17
   have hT := hT.back hS (by first | exact Le.refl _ | assumption) (fun x hx => by try simp only [List.take_succ_cons, List.take_zero, List.mem_cons, List.not_mem_nil, or_false] at hx; (rcases hx with rfl) <;> simp)
   refine ⟨fun _ _ => hT, ?_⟩
   exact K3 _ _ _ _ (by kernel_rfl) (by exact ⟨oS1, cS1, oH1, cH1, oM, cM, b7, Go, rfl, hc1, hs1, hh1, hMm, hS⟩) ((Sub.cons rfl (Sub.cons rfl (Sub.cons rfl (Sub.cons rfl (Sub.cons rfl Sub.nil))))))
 ·
  skip
  have hTo := hT
  clear hS hT
  rintro e w ⟨oS1, cS1, oH1, cH1, oM, cM, b7, Gd, rfl, hld, hs1, hh1, hMm, hS⟩
  have hT := hTo.back hS (by first | exact Le.refl _ | assumption) (fun x hx => by try simp only [List.take_succ_cons, List.take_zero, List.mem_cons, List.not_mem_nil, or_false] at hx; (rcases hx with rfl) <;> simp)
  clear hTo
  replace hA := hA.mono ETriv.mono hld
  replace hR := hR.mono ERule.mono hld
  refine al_step0 (i := 5) rfl (by kernel_rfl) (op_storeN (j := 0) hS sz_34 rfl rfl rfl rfl rfl (by simp [Value.oneCell'])) ?_
  clear hS
  rintro _ w hS; (try simp only [List.nil_append, List.cons_append, List.set] at hS)
  have hT := hT.back hS (by first | exact Le.refl _ | assumption) (fun x hx => by try simp only [List.take_succ_cons, List.take_zero, List.mem_cons, List.not_mem_nil, or_false] at hx; (rcases hx with rfl) <;> simp)
  refine ⟨fun _ _ => hT, ?_⟩
  refine al_take (i := 6) rfl (by kernel_rfl) (by kernel_rfl) (by kernel_rfl) rfl (fun _ _ _ h => h) (op_assign rfl) rfl ?_
  refine al_done (by kernel_rfl) ?_
  refine pq_then ?_
  refine cw_seq ?_
  refine cw_seq ?_
  refine cw_region ?_
  refine ol_pure rfl (op_assign rfl) ?_
  refine ol_nil ?_
  refine pq_then ?_
  refine cw_block ?_
  refine cw_loop (fun e w n => ∃ (i : Nat) (oM : Option Addr) (cM : Nat) (Gk : GH), e = [(5, .bool true), (6, .pointer (some ⟨b6, 0, none⟩)), (7, .pointer (some ⟨b7, 0, none⟩)), (8, .slice oM atoms.length cM), (9, .int .i64 (i : Nat))] ∧ i ≤ (whyP atoms.length rs).1.length ∧ n = (whyP atoms.length rs).1.length - i ∧ Le Gd Gk ∧ RSl 1 EInt Gk (.slice oM atoms.length cM) (stI atoms.length (whyP atoms.length rs).1 i) ∧ SS G w0 Gk [.blk b7 34 [.slice oS1 (whyP atoms.length rs).1.length cS1, .slice oH1 (whyP atoms.length rs).2.length cH1], .blk b6 26 [.slice oA atoms.length cA, .slice oR rs.length cR]] w) _ _ (by exact ⟨0, oM, cM, Gd, rfl, Nat.zero_le _, rfl, Le.refl _, hMm, hS⟩) ((Sub.cons rfl (Sub.cons rfl (Sub.cons rfl (Sub.cons rfl (Sub.cons rfl Sub.nil)))))) ?_
  clear hS
  rintro e w n ⟨i, oM, cM, Gk, rfl, hi, rfl, hlk, hMk, hS⟩
  refine cw_seq ?_
  refine cw_seq ?_
  refine cw_region ?_
  refine ol_pure rfl (op_move rfl) ?_
  refine ol_pure rfl (op_fieldAddr fld_34_0 rfl) ?_
  refine ol_load rfl (op_load1 one_32 rfl (fun w hw => (hw.bcell (i := 0) rfl).trans rfl)) hS ?_
  refine ol_pure rfl (op_len sl_32 rfl rfl) ?_
  refine ol_pure rfl (op_lss rfl rfl) ?_
  refine ol_nil ?_
  refine pq_then ?_
  refine cw_cond rfl (fun h22 => ?_) (fun h22 => ?_)
  ·
   skip
   try simp only [decide_eq_true_eq, decide_eq_false_iff_not, Bool.not_eq_true', Bool.not_eq_false', Bool.not_eq_eq_eq_not, Bool.not_true, Bool.not_false] at h22
   have hlt : i < (whyP atoms.length rs).1.length := by omega
   obtain ⟨hoP, _, _, ⟨vk, rfl, hvk, hrk⟩, hcells⟩ := hs1.el hlt
   obtain ⟨ov, cv, rfl, _, _⟩ := hvk.elim
   have hok := hwr.1 i hlt
   have hml := stI_len (n := atoms.length) (whyP atoms.length rs).1 i
   refine cw_skip ?_
   refine pq_then ?_
   refine cw_seq ?_
   refine cw_block ?_
   refine cw_seq ?_
   refine cw_seq ?_
   refine al_start' hS (hS.take 2) (by kernel_rfl) rfl (fun w hS hT => ?_)
   refine al_load (i := 0) rfl (by kernel_rfl) (by kernel_rfl) (by kernel_rfl) rfl (fun _ _ _ h => h) (by exact op_loadN agg_26 rfl (by rfl) (fun w hw k u hk => (hw.bcell (i := 1) rfl).trans hk)) rfl hT ?_
   refine al_take (i := 1) rfl (by kernel_rfl) (by kernel_rfl) (by kernel_rfl) rfl (fun _ _ _ h => h) (op_move rfl) rfl ?_
   refine al_take (i := 2) rfl (by kernel_rfl) (by kernel_rfl) (by kernel_rfl) rfl (fun _ _ _ h => h) (op_fieldAddr fld_34_0 rfl) rfl ?_
   refine al_load (i := 3) rfl (by kernel_rfl) (by kernel_rfl) (by kernel_rfl) rfl (fun _ _ _ h => h) (by exact op_load1 one_32 rfl (fun w hw => (hw.bcell (i := 0) rfl).trans rfl)) rfl hT ?_
   refine al_take (i := 4) rfl (by kernel_rfl) (by kernel_rfl) (by kernel_rfl) rfl (fun _ _ _ h => h) (op_move rfl) rfl ?_
   refine al_take (i := 5) rfl (by kernel_rfl) (by kernel_rfl) (by kernel_rfl) rfl (fun _ _ _ h => h) (op_indexN sl_32 rfl rfl (by omega) hoP) rfl ?_
   refine al_load (i := 6) rfl (by kernel_rfl) (by kernel_rfl) (by kernel_rfl) rfl (fun _ _ _ h => h) (by exact op_loadN agg_37 rfl (by rfl) (fun w hw k u hk => hw.gcell (hlk.cell (hcells _ u hk)))) rfl hT ?_
   refine al_step (i := 7) rfl (by kernel_rfl) rfl (op_call_sc hS cf_24 rfl ((by have h9 := R21_Fits_c _ _ hS.hold ETriv.mono _ _ atoms rs (hA.mono ETriv.mono hlk) (hR.mono ERule.mono hlk) hP _ _ hMk hml (whyP atoms.length rs).1[i] _ (hvk.mono EInt.mono hlk) hrk; rwa [hok] at h9))) ?_
   clear hS
   rintro _ w ⟨rfl, hS⟩
   have hT := hT.back hS (by first | exact Le.refl _ | assumption) (fun x hx => by try simp only [List.take_succ_cons, List.take_zero, List.mem_cons, List.not_mem_nil, or_false] at hx; (rcases hx with rfl | rfl) <;> simp)
   refine ⟨fun _ _ => hT, ?_⟩
   refine al_take (i := 8) rfl (by kernel_rfl) (by kernel_rfl) (by kernel_rfl) rfl (fun _ _ _ h => h) (op_not rfl) rfl ?_
   refine al_take (i := 9) rfl (by kernel_rfl) (by kernel_rfl) (by kernel_rfl) rfl (fun _ _ _ h => h) (op_move rfl) rfl ?_
   refine al_gtake (i := 10) rfl (by kernel_rfl) (by kernel_rfl) (by kernel_rfl) rfl rfl rfl (fun _ _ _ h => h) (op_move rfl) rfl ?_
   refine al_gtake (i := 11) rfl (by kernel_rfl) (by kernel_rfl) (by kernel_rfl) rfl rfl rfl (fun _ _ _ h => h) (op_gtr rfl rfl) rfl ?_
   refine al_gtake (i := 12) rfl (by kernel_rfl) (by kernel_rfl) (by kernel_rfl) rfl rfl rfl (fun _ _ _ h => h) (op_move rfl) rfl ?_
   refine al_split (fun h37 => ?_) (fun h37 => ?_)
   ·
    skip
    try simp only [decide_eq_true_eq, decide_eq_false_iff_not, Bool.not_eq_true', Bool.not_eq_false', Bool.not_eq_eq_eq_not, Bool.not_true, Bool.not_false] at h37
    have hlt0 : i - 1 < (whyP atoms.length rs).1.length := by omega
    obtain ⟨hoP0, _, _, ⟨vk0, rfl, hvk0, hrk0⟩, hcells0⟩ := hs1.el hlt0
    refine al_gtake (i := 13) rfl (by kernel_rfl) (by kernel_rfl) (by kernel_rfl) rfl rfl rfl (fun _ _ _ h => h) (op_fieldAddr fld_34_0 rfl) rfl ?_
    refine al_gload (i := 14) rfl (by kernel_rfl) (by kernel_rfl) (by kernel_rfl) rfl rfl rfl (fun _ _ _ h => h) (by exact op_load1 one_32 rfl (fun w hw => (hw.bcell (i := 0) rfl).trans rfl)) rfl hT ?_
    refine al_gtake (i := 15) rfl (by kernel_rfl) (by kernel_rfl) (by kernel_rfl) rfl rfl rfl (fun _ _ _ h => h) (op_move rfl) rfl ?_
    refine al_gtake (i := 16) rfl (by kernel_rfl) (by kernel_rfl) (by kernel_rfl) rfl rfl rfl (fun _ _ _ h => h) (op_indexN sl_32 rfl rfl (by omega) hoP) rfl ?_
    refine al_gtake (i := 17) rfl (by kernel_rfl) (by kernel_rfl) (by kernel_rfl) rfl rfl rfl (fun _ _ _ h => h) (op_fieldAddr fld_37_0 rfl) rfl ?_
    refine al_gload (i := 18) rfl (by kernel_rfl) (by kernel_rfl) (by kernel_rfl) rfl rfl rfl (fun _ _ _ h => h) (by exact op_load1 one_3 rfl (fun w hw => hw.gcell (hlk.cell (hcells 0 _ rfl)))) rfl hT ?_
    refine al_gtake (i := 19) rfl (by kernel_rfl) (by kernel_rfl) (by kernel_rfl) rfl rfl rfl (fun _ _ _ h => h) (op_lss rfl rfl) rfl ?_
    refine al_gtake (i := 20) rfl (by kernel_rfl) (by kernel_rfl) (by kernel_rfl) rfl rfl rfl (fun _ _ _ h => h) (op_pick_t rfl rfl) rfl ?_
    refine al_gtake (i := 21) rfl (by kernel_rfl) (by kernel_rfl) (by kernel_rfl) rfl rfl rfl (fun _ _ _ h => h) (op_move rfl) rfl ?_
    refine al_split (fun h46 => ?_) (fun h46 => ?_)
    ·
     skip
     try simp only [decide_eq_true_eq, decide_eq_false_iff_not, Bool.not_eq_true', Bool.not_eq_false', Bool.not_eq_eq_eq_not, Bool.not_true, Bool.not_false] at h46
     refine al_gtake (i := 22) rfl (by kernel_rfl) (by kernel_rfl) (by kernel_rfl) rfl rfl rfl (fun _ _ _ h => h) (op_fieldAddr fld_34_0 rfl) rfl ?_
     refine al_gload (i := 23) rfl (by kernel_rfl) (by kernel_rfl) (by kernel_rfl) rfl rfl rfl (fun _ _ _ h => h) (by exact op_load1 one_32 rfl (fun w hw => (hw.bcell (i := 0) rfl).trans rfl)) rfl hT ?_
     refine al_gtake (i := 24) rfl (by kernel_rfl) (by kernel_rfl) (by kernel_rfl) rfl rfl rfl (fun _ _ _ h => h) (op_move rfl) rfl ?_
     refine al_gtake (i := 25) rfl (by kernel_rfl) (by kernel_rfl) (by kernel_rfl) rfl rfl rfl (fun _ _ _ h => h) (op_val (op_sub rfl rfl (by omega) (by omega)) (v' := .int .i64 ((i - 1 : Nat) : Int)) (congrArg (Value.int .i64) (by omega))) rfl ?_
     refine al_gtake (i := 26) rfl (by kernel_rfl) (by kernel_rfl) (by kernel_rfl) rfl rfl rfl (fun _ _ _ h => h) (op_indexN sl_32 rfl rfl (by omega) hoP0) rfl ?_
     refine al_gtake (i := 27) rfl (by kernel_rfl) (by kernel_rfl) (by kernel_rfl) rfl rfl rfl (fun _ _ _ h => h) (op_fieldAddr fld_37_0 rfl) rfl ?_
     refine al_gload (i := 28) rfl (by kernel_rfl) (by kernel_rfl) (by kernel_rfl) rfl rfl rfl (fun _ _ _ h => h) (by exact op_load1 one_3 rfl (fun w hw => hw.gcell (hlk.cell (hcells0 0 _ rfl)))) rfl hT ?_
     refine al_gtake (i := 29) rfl (by kernel_rfl) (by kernel_rfl) (by kernel_rfl) rfl rfl rfl (fun _ _ _ h => h) (op_lss rfl rfl) rfl ?_
     refine al_gtake (i := 30) rfl (by kernel_rfl) (by kernel_rfl) (by kernel_rfl) rfl rfl rfl (fun _ _ _ h => h) (op_pick_t rfl rfl) rfl ?_
     refine al_take (i := 31) rfl (by kernel_rfl) (by kernel_rfl) (by kernel_rfl) rfl (fun _ _ _ h => h) (op_pick_f rfl rfl) rfl ?_
     refine al_done (by kernel_rfl) ?_
     refine pq_then ?_
     refine cw_cond rfl (fun h56 => ?_) (fun h56 => ?_)
     ·
      skip
      try simp only [decide_eq_true_eq, decide_eq_false_iff_not, Bool.not_eq_true', Bool.not_eq_false', Bool.not_eq_eq_eq_not, Bool.not_true, Bool.not_false] at h56
      refine cw_seq ?_
      refine cw_region ?_
      refine ol_pure rfl (op_assign rfl) ?_
      refine ol_nil ?_
      refine pq_then ?_
      refine cw_ret ?_
      refine pq_ret ?_
      refine pq_in_ret ?_
      refine pq_ret ?_
      refine pq_ret ?_
      refine pq_in_ret ?_
      refine pq_ret ?_
      refine ret1 rfl rfl ?_
      exfalso
      have h9 := why_two hP (i - 1) (by omega)
      have h8 : i - 1 + 1 = i := by omega
      simp only [h8] at h9
      exact h9 ⟨h56, h46⟩
     ·
      skip
      try simp only [decide_eq_true_eq, decide_eq_false_iff_not, Bool.not_eq_true', Bool.not_eq_false', Bool.not_eq_eq_eq_not, Bool.not_true, Bool.not_false] at h56
      refine cw_skip ?_
      refine pq_then ?_
      refine cw_region ?_
      refine ol_pure rfl (op_move rfl) ?_
      refine ol_pure rfl (op_fieldAddr fld_34_0 rfl) ?_
      refine ol_load rfl (op_load1 one_32 rfl (fun w hw => (hw.bcell (i := 0) rfl).trans rfl)) hS ?_
      refine ol_pure rfl (op_move rfl) ?_
      refine ol_pure rfl (op_indexN sl_32 rfl rfl (by omega) hoP) ?_
      refine ol_load rfl (op_loadN agg_37 rfl (by rfl) (fun w hw k u hk => hw.gcell (hlk.cell (hcells _ u hk)))) hS ?_
      refine ol_step rfl (op_call_fr hS cf_25 rfl (R21_Tell_c _ _ hS.hold _ _ hMk (whyP atoms.length rs).1[i] _ (hvk.mono EInt.mono hlk) hrk (stI_range _ _) (by omega) (fun a ha => by rw [hml]; exact hwr.1.atoms hlt ha))) ?_
      clear hS
      rintro v63 w ⟨F63, Gt, hR63, hF63, hf63, hl63, hS⟩
      obtain ⟨oM2, cM2, rfl, _, _⟩ := hR63.elimN (n := atoms.length) (by rw [tellI_len, hml])
      have hM2 := hR63.mono EInt.mono hf63
      rw [← stI_succ hlt] at hM2
      refine ol_pure rfl (op_assign rfl) ?_
      refine ol_nil ?_
      refine pq_in_normal ?_
      refine pq_then ?_
      refine cw_region ?_
      refine ol_pure rfl (op_move rfl) ?_
      refine ol_pure rfl (op_add rfl rfl (by omega) (by omega)) ?_
      refine ol_pure rfl (op_assign rfl) ?_
      refine ol_nil ?_
      refine pq_loop _ _ (by exact ⟨i + 1, oM2, cM2, Gt, rfl, by omega, rfl, hlk.trans hl63, hM2, hS⟩) ((Sub.cons rfl (Sub.cons rfl (Sub.cons rfl (Sub.cons rfl (Sub.cons rfl Sub.nil)))))) (by omega)
    ·
     skip
     try simp only [decide_eq_true_eq, decide_eq_false_iff_not, Bool.not_eq_true', Bool.not_eq_false', Bool.not_eq_eq_eq_not, Bool.not_true, Bool.not_false] at h46
     refine al_gskip (i := 22) rfl (by kernel_rfl) (by kernel_rfl) (by kernel_rfl) rfl rfl rfl rfl (fun _ _ _ h => h) (fun _ => hT) ?_
     refine al_gskip (i := 23) rfl (by kernel_rfl) (by kernel_rfl) (by kernel_rfl) rfl rfl rfl rfl (fun _ _ _ h => h) (fun _ => hT) ?_
     refine al_gskip (i := 24) rfl (by kernel_rfl) (by kernel_rfl) (by kernel_rfl) rfl rfl rfl rfl (fun _ _ _ h => h) (fun _ => hT) ?_
     refine al_gskip (i := 25) rfl (by kernel_rfl) (by kernel_rfl) (by kernel_rfl) rfl rfl rfl rfl (fun _ _ _ h => h) (fun _ => hT) ?_
     refine al_gskip (i := 26) rfl (by kernel_rfl) (by kernel_rfl) (by kernel_rfl) rfl rfl rfl rfl (fun _ _ _ h => h) (fun _ => hT) ?_
     refine al_gskip (i := 27) rfl (by kernel_rfl) (by kernel_rfl) (by kernel_rfl) rfl rfl rfl rfl (fun _ _ _ h => h) (fun _ => hT) ?_
     refine al_gskip (i := 28) rfl (by kernel_rfl) (by kernel_rfl) (by kernel_rfl) rfl rfl rfl rfl (fun _ _ _ h => h) (fun _ => hT) ?_
     refine al_gskip (i := 29) rfl (by kernel_rfl) (by kernel_rfl) (by kernel_rfl) rfl rfl rfl rfl (fun _ _ _ h => h) (fun _ => hT) ?_
     refine al_gtake (i := 30) rfl (by kernel_rfl) (by kernel_rfl) (by kernel_rfl) rfl rfl rfl (fun _ _ _ h => h) (op_pick_f rfl rfl) rfl ?_
     refine al_take (i := 31) rfl (by kernel_rfl) (by kernel_rfl) (by kernel_rfl) rfl (fun _ _ _ h => h) (op_pick_f rfl rfl) rfl ?_
     refine al_done (by kernel_rfl) ?_
     refine pq_then ?_
     refine cw_cond_f rfl ?_
     refine cw_skip ?_
     refine pq_then ?_
     refine cw_region ?_
     refine ol_pure rfl (op_move rfl) ?_
     refine ol_pure rfl (op_fieldAddr fld_34_0 rfl) ?_
     refine ol_load rfl (op_load1 one_32 rfl (fun w hw => (hw.bcell (i := 0) rfl).trans rfl)) hS ?_
     refine ol_pure rfl (op_move rfl) ?_
     refine ol_pure rfl (op_indexN sl_32 rfl rfl (by omega) hoP) ?_
     refine ol_load rfl (op_loadN agg_37 rfl (by rfl) (fun w hw k u hk => hw.gcell (hlk.cell (hcells _ u hk)))) hS ?_
     refine ol_step rfl (op_call_fr hS cf_25 rfl (R21_Tell_c _ _ hS.hold _ _ hMk (whyP atoms.length rs).1[i] _ (hvk.mono EInt.mono hlk) hrk (stI_range _ _) (by omega) (fun a ha => by rw [hml]; exact hwr.1.atoms hlt ha))) ?_
     clear hS
     rintro v63 w ⟨F63, Gt, hR63, hF63, hf63, hl63, hS⟩
     obtain ⟨oM2, cM2, rfl, _, _⟩ := hR63.elimN (n := atoms.length) (by rw [tellI_len, hml])
     have hM2 := hR63.mono EInt.mono hf63
     rw [← stI_succ hlt] at hM2
     refine ol_pure rfl (op_assign rfl) ?_
     refine ol_nil ?_
     refine pq_in_normal ?_
     refine pq_then ?_
     refine cw_region ?_
     refine ol_pure rfl (op_move rfl) ?_
     refine ol_pure rfl (op_add rfl rfl (by omega) (by omega)) ?_
     refine ol_pure rfl (op_assign rfl) ?_
     refine ol_nil ?_
     refine pq_loop _ _ (by exact ⟨i + 1, oM2, cM2, Gt, rfl, by omega, rfl, hlk.trans hl63, hM2, hS⟩) ((Sub.cons rfl (Sub.cons rfl (Sub.cons rfl (Sub.cons rfl (Sub.cons rfl Sub.nil)))))) (by omega)
   ·
    skip
    try simp only [decide_eq_true_eq, decide_eq_false_iff_not, Bool.not_eq_true', Bool.not_eq_false', Bool.not_eq_eq_eq_not, Bool.not_true, Bool.not_false] at h37
    refine al_gskip (i := 13) rfl (by kernel_rfl) (by kernel_rfl) (by kernel_rfl) rfl rfl rfl rfl (fun _ _ _ h => h) (fun _ => hT) ?_
    refine al_gskip (i := 14) rfl (by kernel_rfl) (by kernel_rfl) (by kernel_rfl) rfl rfl rfl rfl (fun _ _ _ h => h) (fun _ => hT) ?_
    refine al_gskip (i := 15) rfl (by kernel_rfl) (by kernel_rfl) (by kernel_rfl) rfl rfl rfl rfl (fun _ _ _ h => h) (fun _ => hT) ?_
    refine al_gskip (i := 16) rfl (by kernel_rfl) (by kernel_rfl) (by kernel_rfl) rfl rfl rfl rfl (fun _ _ _ h => h) (fun _ => hT) ?_
    refine al_gskip (i := 17) rfl (by kernel_rfl) (by kernel_rfl) (by kernel_rfl) rfl rfl rfl rfl (fun _ _ _ h => h) (fun _ => hT) ?_
    refine al_gskip (i := 18) rfl (by kernel_rfl) (by kernel_rfl) (by kernel_rfl) rfl rfl rfl rfl (fun _ _ _ h => h) (fun _ => hT) ?_
    refine al_gskip (i := 19) rfl (by kernel_rfl) (by kernel_rfl) (by kernel_rfl) rfl rfl rfl rfl (fun _ _ _ h => h) (fun _ => hT) ?_
    refine al_gtake (i := 20) rfl (by kernel_rfl) (by kernel_rfl) (by kernel_rfl) rfl rfl rfl (fun _ _ _ h => h) (op_pick_f rfl rfl) rfl ?_
    refine al_gtake (i := 21) rfl (by kernel_rfl) (by kernel_rfl) (by kernel_rfl) rfl rfl rfl (fun _ _ _ h => h) (op_move rfl) rfl ?_
    refine al_gskip (i := 22) rfl (by kernel_rfl) (by kernel_rfl) (by kernel_rfl) rfl rfl rfl rfl (fun _ _ _ h => h) (fun _ => hT) ?_
    refine al_gskip (i := 23) rfl (by kernel_rfl) (by kernel_rfl) (by kernel_rfl) rfl rfl rfl rfl (fun _ _ _ h => h) (fun _ => hT) ?_
    refine al_gskip (i := 24) rfl (by kernel_rfl) (by kernel_rfl) (by kernel_rfl) rfl rfl rfl rfl (fun _ _ _ h => h) (fun _ => hT) ?_
    refine al_gskip (i := 25) rfl (by kernel_rfl) (by kernel_rfl) (by kernel_rfl) rfl rfl rfl rfl (fun _ _ _ h => h) (fun _ => hT) ?_
    refine al_gskip (i := 26) rfl (by kernel_rfl) (by kernel_rfl) (by kernel_rfl) rfl rfl rfl rfl (fun _ _ _ h => h) (fun _ => hT) ?_
    refine al_gskip (i := 27) rfl (by kernel_rfl) (by kernel_rfl) (by kernel_rfl) rfl rfl rfl rfl (fun _ _ _ h => h) (fun _ => hT) ?_
    refine al_gskip (i := 28) rfl (by kernel_rfl) (by kernel_rfl) (by kernel_rfl) rfl rfl rfl rfl (fun _ _ _ h => h) (fun _ => hT) ?_
    refine al_gskip (i := 29) rfl (by kernel_rfl) (by kernel_rfl) (by kernel_rfl) rfl rfl rfl rfl (fun _ _ _ h => h) (fun _ => hT) ?_
    refine al_gtake (i := 30) rfl (by kernel_rfl) (by kernel_rfl) (by kernel_rfl) rfl rfl rfl (fun _ _ _ h => h) (op_pick_f rfl rfl) rfl ?_
    refine al_take (i := 31) rfl (by kernel_rfl) (by kernel_rfl) (by kernel_rfl) rfl (fun _ _ _ h => h) (op_pick_f rfl rfl) rfl ?_
    refine al_done (by kernel_rfl) ?_
    refine pq_then ?_
    refine cw_cond_f rfl ?_
    refine cw_skip ?_
    refine pq_then ?_
    refine cw_region ?_
    refine ol_pure rfl (op_move rfl) ?_
    refine ol_pure rfl (op_fieldAddr fld_34_0 rfl) ?_
    refine ol_load rfl (op_load1 one_32 rfl (fun w hw => (hw.bcell (i := 0) rfl).trans rfl)) hS ?_
    refine ol_pure rfl (op_move rfl) ?_
    refine ol_pure rfl (op_indexN sl_32 rfl rfl (by omega) hoP) ?_
    refine ol_load rfl (op_loadN agg_37 rfl (by rfl) (fun w hw k u hk => hw.gcell (hlk.cell (hcells _ u hk)))) hS ?_
    refine ol_step rfl (op_call_fr hS cf_25 rfl (R21_Tell_c _ _ hS.hold _ _ hMk (whyP atoms.length rs).1[i] _ (hvk.mono EInt.mono hlk) hrk (stI_range _ _) (by omega) (fun a ha => by rw [hml]; exact hwr.1.atoms hlt ha))) ?_
    clear hS
    rintro v63 w ⟨F63, Gt, hR63, hF63, hf63, hl63, hS⟩
    obtain ⟨oM2, cM2, rfl, _, _⟩ := hR63.elimN (n := atoms.length) (by rw [tellI_len, hml])
    have hM2 := hR63.mono EInt.mono hf63
    rw [← stI_succ hlt] at hM2
    refine ol_pure rfl (op_assign rfl) ?_
    refine ol_nil ?_
    refine pq_in_normal ?_
    refine pq_then ?_
    refine cw_region ?_
    refine ol_pure rfl (op_move rfl) ?_
    refine ol_pure rfl (op_add rfl rfl (by omega) (by omega)) ?_
    refine ol_pure rfl (op_assign rfl) ?_
    refine ol_nil ?_
    refine pq_loop _ _ (by exact ⟨i + 1, oM2, cM2, Gt, rfl, by omega, rfl, hlk.trans hl63, hM2, hS⟩) ((Sub.cons rfl (Sub.cons rfl (Sub.cons rfl (Sub.cons rfl (Sub.cons rfl Sub.nil)))))) (by omega)
  ·
   skip
   try simp only [decide_eq_true_eq, decide_eq_false_iff_not, Bool.not_eq_true', Bool.not_eq_false', Bool.not_eq_eq_eq_not, Bool.not_true, Bool.not_false] at h22
   refine cw_exit ?_
   refine pq_exit ?_
   refine pq_exit ?_
   refine pq_in_exit ?_
   refine pq_then ?_
   refine cw_seq ?_
   refine cw_region ?_
   refine ol_pure rfl (op_fieldAddr fld_34_0 rfl) ?_
   refine ol_load rfl (op_load1 one_32 rfl (fun w hw => (hw.bcell (i := 0) rfl).trans rfl)) hS ?_
   refine ol_pure rfl (op_len sl_32 rfl rfl) ?_
   refine ol_pure rfl (op_fieldAddr fld_26_0 rfl) ?_
   refine ol_load rfl (op_load1 one_24 rfl (fun w hw => (hw.bcell (i := 1) rfl).trans rfl)) hS ?_
   refine ol_pure rfl (op_len sl_24 rfl rfl) ?_
   refine ol_pure rfl (op_leq rfl rfl) ?_
   refine ol_pure rfl (op_move rfl) ?_
   refine ol_split (fun h71 => ?_) (fun h71 => ?_)
   ·
    skip
    try simp only [decide_eq_true_eq, decide_eq_false_iff_not, Bool.not_eq_true', Bool.not_eq_false', Bool.not_eq_eq_eq_not, Bool.not_true, Bool.not_false] at h71
    refine ol_guard_pure rfl rfl rfl (op_move rfl) ?_
    refine ol_pure rfl (op_pick_t rfl rfl) ?_
    refine ol_pure rfl (op_assign rfl) ?_
    refine ol_nil ?_
    refine pq_then ?_
    refine cw_ret ?_
    refine ret1 rfl rfl ?_
    exact hS.sc_b rfl
   ·
    skip
    try simp only [decide_eq_true_eq, decide_eq_false_iff_not, Bool.not_eq_true', Bool.not_eq_false', Bool.not_eq_eq_eq_not, Bool.not_true, Bool.not_false] at h71
    refine ol_guard_no rfl rfl rfl rfl ?_
    refine ol_pure rfl (op_pick_f rfl rfl) ?_
    refine ol_pure rfl (op_assign rfl) ?_
    refine ol_nil ?_
    refine pq_then ?_
    refine cw_ret ?_
    refine ret1 rfl rfl ?_
    exfalso
    omega
end Go.Proofs.Ytmkgechdfimfnaa.K
