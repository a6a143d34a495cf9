/-
  JustHeld: its walk.
  No condition but the premises that each theorem names.
-/
import Derived.Test.YtmkgechdfimfnaaLJhead
import Derived.Test.YtmkgechdfimfnaaPls
import Derived.Test.YtmkgechdfimfnaaJwhy
namespace Go.Proofs.Ytmkgechdfimfnaa.K
open Go Go.RowKit
set_option linter.unusedVariables false
set_option linter.unusedSimpArgs false

open Pl

set_option maxRecDepth 100000 in
set_option maxHeartbeats 8000000 in

theorem L21_JustHeld_c (G : GH) (w0 : World) (hG : Holds G w0) (v : Value) (l : List Rule) (h1 : RSl 3 ERule G v l) (z : Int) (hz : 0 ≤ z ∧ z ≤ 255)  :
   Calls Try.prog 7 #[v, .int .u8 z] w0 (Sc w0 (.bool true)) := by
 refine enter Try.func7 rfl (N := 125) rfl (Nat.le_of_ble_eq_true rfl) ?_
 have hS := SS.init hG
 refine cw_seq ?_
 refine cw_region ?_
 refine ol_pure rfl (op_assign rfl) ?_
 refine ol_nil ?_
 refine pq_then ?_
 refine cw_seq ?_
 refine cw_region ?_
 refine ol_step rfl (op_call_sc hS cf_10 rfl (L21_head_c G _ hS.hold)) ?_
 clear hS
 rintro _ w ⟨rfl, hS⟩
 refine ol_pure rfl (op_assign rfl) ?_
 refine ol_nil ?_
 refine pq_then ?_
 refine cw_seq ?_
 refine cw_region ?_
 refine ol_pure rfl (op_move rfl) ?_
 refine ol_pure rfl (op_move rfl) ?_
 refine ol_step rfl (op_call_rt hS cf_11 rfl (fun _ => .inr rfl) (madeMono ETriv.mono) (R18_Made_c _ _ hS.hold v l h1 z hz)) ?_
 clear hS
 rintro v17 w ⟨Gm, hl17, hR17, hS⟩
 obtain ⟨va, vr, rfl, hA, hR⟩ := hR17
 have hmr := madeN_range z
 have hok := madeR_ok l hmr.1 hmr.2
 obtain ⟨atoms, hat⟩ : ∃ atoms : List Unit, atoms = List.replicate (madeN z) () := ⟨_, rfl⟩
 have hal : atoms.length = madeN z := by rw [hat]; simp
 rw [← hat] at hA
 have hP : PrOk atoms.length (madeR l (madeN z)) := by rw [hal]; exact hok.1
 have hNg := hok.2
 rw [← hal] at hmr
 clear hok hal hat
 generalize madeR l (madeN z) = rs at hR hP hNg
 obtain ⟨oA, cA, rfl, _, _⟩ := hA.elim
 obtain ⟨oR, cR, rfl, _, _⟩ := hR.elim
 have hwr := why_runs hP
 have hPn := hP.n_le
 have hPm := hP.m_le
 have hsl := hwr.1.len
 have hlo := hwr.1.lean hP
 have hsm : ∀ s ∈ (whyP atoms.length rs).1, s.atoms.length ≤ 1000 := fun s hs => by have := hwr.1.small s hs; omega
 have hng : ∀ r ∈ rs, r.neg.length ≤ 1000 := fun r hr => by have := (hNg r hr).2; omega
 
 refine ol_step rfl (op_alloc hS el_26 rfl) ?_
 clear hS
 rintro _ w ⟨b6, rfl, hS⟩
 refine ol_step0  (op_storeN (j := 0) hS sz_26 rfl rfl rfl rfl rfl (by simp [Value.oneCell'])) ?_
 clear hS
 rintro _ w hS; (try simp only [List.nil_append, List.cons_append, List.set] at hS)
 refine ol_nil ?_
 refine pq_then ?_
 refine cw_seq ?_
 refine cw_region ?_
 refine ol_load rfl (op_loadN agg_26 rfl (by rfl) (fun w hw k u hk => (hw.bcell (i := 0) rfl).trans hk)) hS ?_
 refine ol_step rfl (op_call_rt hS cf_13 rfl (fun _ => .inr rfl) (whyMono) (just_Why_c _ _ hS.hold ETriv.mono _ _ atoms rs hA hR hP)) ?_
 clear hS
 rintro v19 w ⟨Gw, hl19, hR19, hS⟩
 obtain ⟨vs1, vh1, rfl, hs1, hh1⟩ := hR19
 obtain ⟨oS1, cS1, rfl, _, _⟩ := hs1.elim
 obtain ⟨oH1, cH1, rfl, _, _⟩ := hh1.elim
 replace hA := hA.mono ETriv.mono hl19
 replace hR := hR.mono ERule.mono hl19
 have hWle := hh1.le
 refine ol_step rfl (op_alloc hS el_34 rfl) ?_
 clear hS
 rintro _ w ⟨b7, rfl, hS⟩
 refine ol_step0  (op_storeN (j := 0) hS sz_34 rfl rfl rfl rfl rfl (by simp [Value.oneCell'])) ?_
 clear hS
 rintro _ w hS; (try simp only [List.nil_append, List.cons_append, List.set] at hS)
 refine ol_nil ?_
 refine pq_then ?_
 refine cw_seq ?_
 refine al_start' hS (hS.take 2) (by kernel_rfl) rfl (fun w hS hT => ?_)
 refine al_load (i := 0) rfl (by kernel_rfl) (by kernel_rfl) (by kernel_rfl) rfl (fun _ _ _ h => h) (by exact op_loadN agg_26 rfl (by rfl) (fun w hw k u hk => (hw.bcell (i := 1) rfl).trans hk)) rfl hT ?_
 refine al_load (i := 1) rfl (by kernel_rfl) (by kernel_rfl) (by kernel_rfl) rfl (fun _ _ _ h => h) (by exact op_loadN agg_34 rfl (by rfl) (fun w hw k u hk => (hw.bcell (i := 0) rfl).trans hk)) rfl hT ?_
 refine al_take (i := 3) rfl (by kernel_rfl) (by kernel_rfl) (by kernel_rfl) rfl (fun _ _ _ h => h) (op_fieldAddr fld_26_0 rfl) rfl ?_
 refine al_load (i := 4) rfl (by kernel_rfl) (by kernel_rfl) (by kernel_rfl) rfl (fun _ _ _ h => h) (by exact op_load1 one_24 rfl (fun w hw => (hw.bcell (i := 1) rfl).trans rfl)) rfl hT ?_
 refine al_take (i := 5) rfl (by kernel_rfl) (by kernel_rfl) (by kernel_rfl) rfl (fun _ _ _ h => h) (op_len sl_24 rfl rfl) rfl ?_
 refine al_meet (fuel2 := 1) (ds2 := [7, 6, 5, 4, 3, 2, 1, 0]) (fun e w => ∃ oM cM od Gd, e = [(5, .bool true), (6, .pointer (some ⟨b6, 0, none⟩)), (7, .pointer (some ⟨b7, 0, none⟩)), (8, .slice oM atoms.length cM), (26, .slice od atoms.length atoms.length)] ∧ Le Gw Gd ∧ RSl 1 EInt Gd (.slice oM atoms.length cM) (knownI atoms.length (whyP atoms.length rs).1) ∧ SS G w0 Gd [.row od atoms.length atoms.length 4 1 (List.replicate atoms.length (.bool false)), .blk b7 34 [.slice oS1 (whyP atoms.length rs).1.length cS1, .slice oH1 (whyP atoms.length rs).2.length cH1], .blk b6 26 [.slice oA atoms.length cA, .slice oR rs.length cR]] w) (fun K4 => ?_) ?_
 ·
  skip
  refine al_two (i := 2) (j := 6) (by kernel_rfl) (fun a ha => ?_) (fun a ha => ?_)
  ·
   skip
   refine wpOp_of_opk (i := 2) rfl ha (op_call_fr hS cf_20 rfl (R21_Known_c _ _ hS.hold ETriv.mono _ _ atoms rs hA hR hP _ _ (whyP atoms.length rs).1 hs1 ⟨_, _, _, rfl⟩)) ?_
   clear hS
   rintro v22 w ⟨F22, Gk2, hR22, hF22, hf22, hl22, hS⟩
   obtain ⟨oM, cM, rfl, _, _⟩ := hR22.elimN (n := atoms.length) (known_len _ _)
   have hMm := hR22.mono EInt.mono hf22
   have hT := hT.back hS (by first | exact Le.refl _ | assumption) (fun x hx => by try simp only [List.take_succ_cons, List.take_zero, List.mem_cons, List.not_mem_nil, or_false] at hx; (rcases hx with rfl | rfl) <;> simp)
   refine ⟨fun _ _ => hT, ?_⟩
   refine al_at ?_ (ha.put (blt_lt rfl) _)
   refine al_take (i := 7) rfl (by kernel_rfl) (by kernel_rfl) (by kernel_rfl) rfl (fun _ _ _ h => h) (op_assign rfl) rfl ?_
   refine al_step (i := 6) rfl (by kernel_rfl) rfl (op_makeSlice (n := atoms.length) hS sl_49 el_4 rfl rfl rfl (by omega) (by unfold maxLen; omega)) ?_
   clear hS
   rintro _ w ⟨od, rfl, hS⟩
   have hT := hT.back hS (by first | exact Le.refl _ | assumption) (fun x hx => by try simp only [List.take_succ_cons, List.take_zero, List.mem_cons, List.not_mem_nil, or_false] at hx; (rcases hx with rfl | rfl) <;> simp)
   refine ⟨fun _ _ => hT, ?_⟩
   exact K4 _ _ _ _ (by kernel_rfl) (by exact ⟨oM, cM, od, Gk2, rfl, hl22, hMm, hS⟩) ((Sub.cons rfl (Sub.cons rfl (Sub.cons rfl (Sub.cons rfl (Sub.cons rfl Sub.nil))))))
  ·
   skip
   refine wpOp_of_opk (i := 6) rfl ha (op_makeSlice (n := atoms.length) hS sl_49 el_4 rfl rfl rfl (by omega) (by unfold maxLen; omega)) ?_
   clear hS
   rintro _ w ⟨od, rfl, hS⟩
   have hT := hT.back hS (by first | exact Le.refl _ | assumption) (fun x hx => by try simp only [List.take_succ_cons, List.take_zero, List.mem_cons, List.not_mem_nil, or_false] at hx; (rcases hx with rfl | rfl) <;> simp)
   refine ⟨fun _ _ => hT, ?_⟩
   refine al_at ?_ (ha.put (blt_lt rfl) _)
   refine al_step (i := 2) rfl (by kernel_rfl) rfl (op_call_fr hS cf_20 rfl (R21_Known_c _ _ hS.hold ETriv.mono _ _ atoms rs hA hR hP _ _ (whyP atoms.length rs).1 hs1 ⟨_, _, _, rfl⟩)) ?_
   clear hS
   rintro v22 w ⟨F22, Gk2, hR22, hF22, hf22, hl22, hS⟩
   obtain ⟨oM, cM, rfl, _, _⟩ := hR22.elimN (n := atoms.length) (known_len _ _)
   have hMm := hR22.mono EInt.mono hf22
   have hT := hT.back hS (by first | exact Le.refl _ | assumption) (fun x hx => by try simp only [List.take_succ_cons, List.take_zero, List.mem_cons, List.not_mem_nil, or_false] at hx; (rcases hx with rfl | rfl) <;> simp)
   refine ⟨fun _ _ => hT, ?_⟩
   refine al_take (i := 7) rfl (by kernel_rfl) (by kernel_rfl) (by kernel_rfl) rfl (fun _ _ _ h => h) (op_assign rfl) rfl ?_
   exact K4 _ _ _ _ (by kernel_rfl) (by exact ⟨oM, cM, od, Gk2, rfl, hl22, hMm, hS⟩) ((Sub.cons rfl (Sub.cons rfl (Sub.cons rfl (Sub.cons rfl (Sub.cons rfl Sub.nil))))))
 ·
  skip
  have hTo := hT
  clear hS hT
  rintro e w ⟨oM, cM, od, Gd, rfl, hld, hMm, hS⟩
  have hT := hTo.back hS (by first | exact Le.refl _ | assumption) (fun x hx => by try simp only [List.take_succ_cons, List.take_zero, List.mem_cons, List.not_mem_nil, or_false] at hx; (rcases hx with rfl | rfl) <;> simp)
  clear hTo
  replace hA := hA.mono ETriv.mono hld
  replace hR := hR.mono ERule.mono hld
  replace hs1 := hs1.mono EStep.mono hld
  replace hh1 := hh1.mono EInt.mono hld
  refine al_take (i := 8) rfl (by kernel_rfl) (by kernel_rfl) (by kernel_rfl) rfl (fun _ _ _ h => h) (op_assign rfl) rfl ?_
  refine al_done (by kernel_rfl) ?_
  refine pq_then ?_
  refine cw_seq ?_
  refine cw_seq ?_
  refine cw_region ?_
  refine ol_pure rfl (op_assign rfl) ?_
  refine ol_nil ?_
  refine pq_then ?_
  refine cw_block ?_
  refine cw_loop (fun e w n => ∃ (i : Nat), e = [(5, .bool true), (6, .pointer (some ⟨b6, 0, none⟩)), (7, .pointer (some ⟨b7, 0, none⟩)), (8, .slice oM atoms.length cM), (9, .slice od atoms.length atoms.length), (10, .int .i64 (i : Nat))] ∧ i ≤ (whyP atoms.length rs).2.length ∧ n = (whyP atoms.length rs).2.length - i ∧ SS G w0 Gd [.row od atoms.length atoms.length 4 1 ((marks atoms.length (((whyP atoms.length rs).2.take i).map (headOf rs))).map Value.bool), .blk b7 34 [.slice oS1 (whyP atoms.length rs).1.length cS1, .slice oH1 (whyP atoms.length rs).2.length cH1], .blk b6 26 [.slice oA atoms.length cA, .slice oR rs.length cR]] w) _ _ (by exact ⟨0, rfl, Nat.zero_le _, rfl, by rw [show (((whyP atoms.length rs).2.take 0).map (headOf rs)) = [] from rfl, marks_nil, List.map_replicate]; exact hS⟩) ((Sub.cons rfl (Sub.cons rfl (Sub.cons rfl (Sub.cons rfl (Sub.cons rfl (Sub.cons rfl Sub.nil))))))) ?_
  clear hS
  rintro e w n ⟨i, rfl, hi, rfl, hS⟩
  refine cw_seq ?_
  refine cw_seq ?_
  refine cw_region ?_
  refine ol_pure rfl (op_move rfl) ?_
  refine ol_pure rfl (op_fieldAddr fld_34_1 rfl) ?_
  refine ol_load rfl (op_load1 one_28 rfl (fun w hw => (hw.bcell (i := 1) rfl).trans rfl)) hS ?_
  refine ol_pure rfl (op_len sl_28 rfl rfl) ?_
  refine ol_pure rfl (op_lss rfl rfl) ?_
  refine ol_nil ?_
  refine pq_then ?_
  refine cw_cond rfl (fun h31 => ?_) (fun h31 => ?_)
  ·
   skip
   try simp only [decide_eq_true_eq, decide_eq_false_iff_not, Bool.not_eq_true', Bool.not_eq_false', Bool.not_eq_eq_eq_not, Bool.not_true, Bool.not_false] at h31
   have hlt : i < (whyP atoms.length rs).2.length := by omega
   obtain ⟨hoH, hcH, hbH⟩ := hh1.int hlt
   obtain ⟨k, hk, hke, hsup, hmk⟩ := held_step hP hlt
   rw [hke] at hcH
   obtain ⟨hoR, _, _, ⟨p, q, rfl, hp, hq, hhd⟩, hcellR⟩ := hR.el hk
   obtain ⟨op, cp, rfl, _, _⟩ := hp.elim
   obtain ⟨oq, cq, rfl, _, _⟩ := hq.elim
   have hrk := (hP.rule _ (List.getElem_mem hk)).1
   obtain ⟨hd0, hhe⟩ := Int.eq_ofNat_of_zero_le hrk.1.1
   have hdn : hd0 < (marks atoms.length (((whyP atoms.length rs).2.take i).map (headOf rs))).length := by rw [marks_len]; have := hrk.1.2; omega
   have hcm2 : ((marks atoms.length (((whyP atoms.length rs).2.take i).map (headOf rs))).map Value.bool)[hd0 * 1]? = some (.bool (marks atoms.length (((whyP atoms.length rs).2.take i).map (headOf rs)))[hd0]) := by simp [hdn]
   have hoD := (hS.news (j := 0) rfl _ _ hcm2).1
   refine cw_skip ?_
   refine pq_then ?_
   refine cw_seq ?_
   refine cw_block ?_
   refine cw_seq ?_
   refine cw_seq ?_
   refine al_start' hS (hS.take 3) (by kernel_rfl) rfl (fun w hS hT => ?_)
   refine al_take (i := 0) rfl (by kernel_rfl) (by kernel_rfl) (by kernel_rfl) rfl (fun _ _ _ h => h) (op_fieldAddr fld_34_1 rfl) rfl ?_
   refine al_load (i := 1) rfl (by kernel_rfl) (by kernel_rfl) (by kernel_rfl) rfl (fun _ _ _ h => h) (by exact op_load1 one_28 rfl (fun w hw => (hw.bcell (i := 1) rfl).trans rfl)) rfl hT ?_
   refine al_take (i := 2) rfl (by kernel_rfl) (by kernel_rfl) (by kernel_rfl) rfl (fun _ _ _ h => h) (op_move rfl) rfl ?_
   refine al_take (i := 3) rfl (by kernel_rfl) (by kernel_rfl) (by kernel_rfl) rfl (fun _ _ _ h => h) (op_indexN sl_28 rfl rfl (by omega) hoH) rfl ?_
   refine al_load (i := 4) rfl (by kernel_rfl) (by kernel_rfl) (by kernel_rfl) rfl (fun _ _ _ h => h) (by exact op_load1 one_3 rfl (fun w hw => hw.gcell hcH)) rfl hT ?_
   refine al_take (i := 5) rfl (by kernel_rfl) (by kernel_rfl) (by kernel_rfl) rfl (fun _ _ _ h => h) (op_lssF rfl rfl (by omega)) rfl ?_
   refine al_take (i := 6) rfl (by kernel_rfl) (by kernel_rfl) (by kernel_rfl) rfl (fun _ _ _ h => h) (op_move rfl) rfl ?_
   refine al_gtake (i := 7) rfl (by kernel_rfl) (by kernel_rfl) (by kernel_rfl) rfl rfl rfl (fun _ _ _ h => h) (op_fieldAddr fld_34_1 rfl) rfl ?_
   refine al_gload (i := 8) rfl (by kernel_rfl) (by kernel_rfl) (by kernel_rfl) rfl rfl rfl (fun _ _ _ h => h) (by exact op_load1 one_28 rfl (fun w hw => (hw.bcell (i := 1) rfl).trans rfl)) rfl hT ?_
   refine al_gtake (i := 9) rfl (by kernel_rfl) (by kernel_rfl) (by kernel_rfl) rfl rfl rfl (fun _ _ _ h => h) (op_move rfl) rfl ?_
   refine al_gtake (i := 10) rfl (by kernel_rfl) (by kernel_rfl) (by kernel_rfl) rfl rfl rfl (fun _ _ _ h => h) (op_indexN sl_28 rfl rfl (by omega) hoH) rfl ?_
   refine al_gload (i := 11) rfl (by kernel_rfl) (by kernel_rfl) (by kernel_rfl) rfl rfl rfl (fun _ _ _ h => h) (by exact op_load1 one_3 rfl (fun w hw => hw.gcell hcH)) rfl hT ?_
   refine al_gtake (i := 12) rfl (by kernel_rfl) (by kernel_rfl) (by kernel_rfl) rfl rfl rfl (fun _ _ _ h => h) (op_fieldAddr fld_26_1 rfl) rfl ?_
   refine al_gload (i := 13) rfl (by kernel_rfl) (by kernel_rfl) (by kernel_rfl) rfl rfl rfl (fun _ _ _ h => h) (by exact op_load1 one_22 rfl (fun w hw => (hw.bcell (i := 2) rfl).trans rfl)) rfl hT ?_
   refine al_gtake (i := 14) rfl (by kernel_rfl) (by kernel_rfl) (by kernel_rfl) rfl rfl rfl (fun _ _ _ h => h) (op_len sl_22 rfl rfl) rfl ?_
   refine al_gtake (i := 15) rfl (by kernel_rfl) (by kernel_rfl) (by kernel_rfl) rfl rfl rfl (fun _ _ _ h => h) (op_val (op_geq rfl rfl) (congrArg Value.bool (decide_eq_false (by omega)))) rfl ?_
   refine al_take (i := 16) rfl (by kernel_rfl) (by kernel_rfl) (by kernel_rfl) rfl (fun _ _ _ h => h) (op_pick_f rfl rfl) rfl ?_
   refine al_take (i := 17) rfl (by kernel_rfl) (by kernel_rfl) (by kernel_rfl) rfl (fun _ _ _ h => h) (op_move rfl) rfl ?_
   refine al_gtake (i := 18) rfl (by kernel_rfl) (by kernel_rfl) (by kernel_rfl) rfl rfl rfl (fun _ _ _ h => h) (op_move rfl) rfl ?_
   refine al_gtake (i := 19) rfl (by kernel_rfl) (by kernel_rfl) (by kernel_rfl) rfl rfl rfl (fun _ _ _ h => h) (op_move rfl) rfl ?_
   refine al_gtake (i := 20) rfl (by kernel_rfl) (by kernel_rfl) (by kernel_rfl) rfl rfl rfl (fun _ _ _ h => h) (op_fieldAddr fld_26_1 rfl) rfl ?_
   refine al_gload (i := 21) rfl (by kernel_rfl) (by kernel_rfl) (by kernel_rfl) rfl rfl rfl (fun _ _ _ h => h) (by exact op_load1 one_22 rfl (fun w hw => (hw.bcell (i := 2) rfl).trans rfl)) rfl hT ?_
   refine al_gtake (i := 22) rfl (by kernel_rfl) (by kernel_rfl) (by kernel_rfl) rfl rfl rfl (fun _ _ _ h => h) (op_fieldAddr fld_34_1 rfl) rfl ?_
   refine al_gload (i := 23) rfl (by kernel_rfl) (by kernel_rfl) (by kernel_rfl) rfl rfl rfl (fun _ _ _ h => h) (by exact op_load1 one_28 rfl (fun w hw => (hw.bcell (i := 1) rfl).trans rfl)) rfl hT ?_
   refine al_gtake (i := 24) rfl (by kernel_rfl) (by kernel_rfl) (by kernel_rfl) rfl rfl rfl (fun _ _ _ h => h) (op_move rfl) rfl ?_
   refine al_gtake (i := 25) rfl (by kernel_rfl) (by kernel_rfl) (by kernel_rfl) rfl rfl rfl (fun _ _ _ h => h) (op_indexN sl_28 rfl rfl (by omega) hoH) rfl ?_
   refine al_gload (i := 26) rfl (by kernel_rfl) (by kernel_rfl) (by kernel_rfl) rfl rfl rfl (fun _ _ _ h => h) (by exact op_load1 one_3 rfl (fun w hw => hw.gcell hcH)) rfl hT ?_
   refine al_gtake (i := 27) rfl (by kernel_rfl) (by kernel_rfl) (by kernel_rfl) rfl rfl rfl (fun _ _ _ h => h) (op_indexN sl_22 rfl rfl (by omega) hoR) rfl ?_
   refine al_gload (i := 28) rfl (by kernel_rfl) (by kernel_rfl) (by kernel_rfl) rfl rfl rfl (fun _ _ _ h => h) (by exact op_loadN agg_30 rfl (by rfl) (fun w hw k u hk => hw.gcell (hcellR _ u hk))) rfl hT ?_
   have hlendD := SS.lend (zs := (marks atoms.length (((whyP atoms.length rs).2.take i).map (headOf rs)))) [] hS (by decide) EBool.mono (Rows.boolsG _ _) (by rw [marks_len])
   refine al_gstep (i := 29) rfl (by kernel_rfl) rfl rfl rfl (op_call_sc hS cf_26 rfl ((by have h9 := R21_Holds_c (fullG _) _ (Holds.full _) _ (knownI atoms.length (whyP atoms.length rs).1) (hMm.mono EInt.mono hS.hold.le_full) _ (marks atoms.length (((whyP atoms.length rs).2.take i).map (headOf rs))) hlendD (by rw [marks_len, known_len]) rs[k] _ _ (hp.mono EInt.mono hS.hold.le_full) (hq.mono EInt.mono hS.hold.le_full) (by rw [known_len]; exact hrk); rwa [hsup] at h9))) ?_
   clear hS
   rintro _ w ⟨rfl, hS⟩
   have hT := hT.back hS (by first | exact Le.refl _ | assumption) (fun x hx => by try simp only [List.take_succ_cons, List.take_zero, List.mem_cons, List.not_mem_nil, or_false] at hx; (rcases hx with rfl | rfl | rfl) <;> simp)
   refine ⟨fun _ _ => hT, ?_⟩
   refine al_gtake (i := 30) rfl (by kernel_rfl) (by kernel_rfl) (by kernel_rfl) rfl rfl rfl (fun _ _ _ h => h) (op_not rfl) rfl ?_
   refine al_take (i := 31) rfl (by kernel_rfl) (by kernel_rfl) (by kernel_rfl) rfl (fun _ _ _ h => h) (op_pick_f rfl rfl) rfl ?_
   refine al_done (by kernel_rfl) ?_
   refine pq_then ?_
   refine cw_cond_f rfl ?_
   refine cw_skip ?_
   refine pq_then ?_
   refine al_start' hS (hS.take 3) (by kernel_rfl) rfl (fun w hS hT => ?_)
   refine al_take (i := 0) rfl (by kernel_rfl) (by kernel_rfl) (by kernel_rfl) rfl (fun _ _ _ h => h) (op_move rfl) rfl ?_
   refine al_take (i := 1) rfl (by kernel_rfl) (by kernel_rfl) (by kernel_rfl) rfl (fun _ _ _ h => h) (op_fieldAddr fld_26_1 rfl) rfl ?_
   refine al_load (i := 2) rfl (by kernel_rfl) (by kernel_rfl) (by kernel_rfl) rfl (fun _ _ _ h => h) (by exact op_load1 one_22 rfl (fun w hw => (hw.bcell (i := 2) rfl).trans rfl)) rfl hT ?_
   refine al_take (i := 3) rfl (by kernel_rfl) (by kernel_rfl) (by kernel_rfl) rfl (fun _ _ _ h => h) (op_fieldAddr fld_34_1 rfl) rfl ?_
   refine al_load (i := 4) rfl (by kernel_rfl) (by kernel_rfl) (by kernel_rfl) rfl (fun _ _ _ h => h) (by exact op_load1 one_28 rfl (fun w hw => (hw.bcell (i := 1) rfl).trans rfl)) rfl hT ?_
   refine al_take (i := 5) rfl (by kernel_rfl) (by kernel_rfl) (by kernel_rfl) rfl (fun _ _ _ h => h) (op_move rfl) rfl ?_
   refine al_take (i := 6) rfl (by kernel_rfl) (by kernel_rfl) (by kernel_rfl) rfl (fun _ _ _ h => h) (op_indexN sl_28 rfl rfl (by omega) hoH) rfl ?_
   refine al_load (i := 7) rfl (by kernel_rfl) (by kernel_rfl) (by kernel_rfl) rfl (fun _ _ _ h => h) (by exact op_load1 one_3 rfl (fun w hw => hw.gcell hcH)) rfl hT ?_
   refine al_take (i := 8) rfl (by kernel_rfl) (by kernel_rfl) (by kernel_rfl) rfl (fun _ _ _ h => h) (op_indexN sl_22 rfl rfl (by omega) hoR) rfl ?_
   refine al_take (i := 9) rfl (by kernel_rfl) (by kernel_rfl) (by kernel_rfl) rfl (fun _ _ _ h => h) (op_fieldAddr fld_30_0 rfl) rfl ?_
   refine al_load (i := 10) rfl (by kernel_rfl) (by kernel_rfl) (by kernel_rfl) rfl (fun _ _ _ h => h) (by exact op_load1 one_3 rfl (fun w hw => hw.gcell (hcellR 0 _ rfl))) rfl hT ?_
   refine al_take (i := 11) rfl (by kernel_rfl) (by kernel_rfl) (by kernel_rfl) rfl (fun _ _ _ h => h) (op_val (op_indexAddr (n := atoms.length) (i := rs[k].head) sl_49 rfl rfl (by omega) (by have := hrk.1.2; omega) hoD) (v' := .pointer (some (elA od (hd0 * 1)))) (by rw [hhe]; rfl)) rfl ?_
   refine al_step0 (i := 12) rfl (by kernel_rfl) (op_storeR (j := 0) (k := hd0 * 1) hS sz_4 rfl rfl rfl rfl (by simpa using hdn)) ?_
   clear hS
   rintro _ w hS; (try simp only [List.nil_append, List.cons_append, List.set] at hS)
   refine ⟨no_need (by kernel_rfl), ?_⟩
   refine al_done (by kernel_rfl) ?_
   refine pq_in_normal ?_
   refine pq_then ?_
   refine cw_region ?_
   refine ol_pure rfl (op_move rfl) ?_
   refine ol_pure rfl (op_add rfl rfl (by omega) (by omega)) ?_
   refine ol_pure rfl (op_assign rfl) ?_
   refine ol_nil ?_
   refine pq_loop _ _ (by exact ⟨i + 1, rfl, by omega, rfl, by rw [hmk, List.map_set, hhe]; rw [Nat.mul_one] at hS; exact hS⟩) ((Sub.cons rfl (Sub.cons rfl (Sub.cons rfl (Sub.cons rfl (Sub.cons rfl (Sub.cons rfl Sub.nil))))))) (by omega)
  ·
   skip
   try simp only [decide_eq_true_eq, decide_eq_false_iff_not, Bool.not_eq_true', Bool.not_eq_false', Bool.not_eq_eq_eq_not, Bool.not_true, Bool.not_false] at h31
   rw [List.take_of_length_le (show (whyP atoms.length rs).2.length ≤ i by omega)] at hS
   refine cw_exit ?_
   refine pq_exit ?_
   refine pq_exit ?_
   refine pq_in_exit ?_
   refine pq_then ?_
   refine cw_seq ?_
   refine cw_seq ?_
   refine cw_region ?_
   refine ol_pure rfl (op_assign rfl) ?_
   refine ol_nil ?_
   refine pq_then ?_
   refine cw_block ?_
   refine cw_loop (fun e w n => ∃ (j : Nat), e = [(5, .bool true), (6, .pointer (some ⟨b6, 0, none⟩)), (8, .slice oM atoms.length cM), (9, .slice od atoms.length atoms.length), (11, .int .i64 (j : Nat))] ∧ j ≤ atoms.length ∧ n = atoms.length - j ∧ SS G w0 Gd [.row od atoms.length atoms.length 4 1 ((marks atoms.length ((whyP atoms.length rs).2.map (headOf rs))).map Value.bool), .blk b7 34 [.slice oS1 (whyP atoms.length rs).1.length cS1, .slice oH1 (whyP atoms.length rs).2.length cH1], .blk b6 26 [.slice oA atoms.length cA, .slice oR rs.length cR]] w) _ _ (by exact ⟨0, rfl, Nat.zero_le _, rfl, hS⟩) ((Sub.cons rfl (Sub.cons rfl (Sub.cons rfl (Sub.cons rfl (Sub.cons rfl Sub.nil)))))) ?_
   clear hS
   rintro e w n ⟨j, rfl, hj, rfl, hS⟩
   refine cw_seq ?_
   refine cw_seq ?_
   refine cw_region ?_
   refine ol_pure rfl (op_move rfl) ?_
   refine ol_pure rfl (op_move rfl) ?_
   refine ol_pure rfl (op_len sl_28 rfl rfl) ?_
   refine ol_pure rfl (op_lss rfl rfl) ?_
   refine ol_nil ?_
   refine pq_then ?_
   refine cw_cond rfl (fun h81 => ?_) (fun h81 => ?_)
   ·
    skip
    try simp only [decide_eq_true_eq, decide_eq_false_iff_not, Bool.not_eq_true', Bool.not_eq_false', Bool.not_eq_eq_eq_not, Bool.not_true, Bool.not_false] at h81
    have hlt : j < atoms.length := by omega
    have hml : j < (knownI atoms.length (whyP atoms.length rs).1).length := by rw [known_len]; exact hlt
    obtain ⟨hoM, hcM, hbM⟩ := hMm.int hml
    have hdl : j < (marks atoms.length ((whyP atoms.length rs).2.map (headOf rs))).length := by rw [marks_len]; exact hlt
    have hcm2 : ((marks atoms.length ((whyP atoms.length rs).2.map (headOf rs))).map Value.bool)[j * 1]? = some (.bool (marks atoms.length ((whyP atoms.length rs).2.map (headOf rs)))[j]) := by simp [hdl]
    have hoD := (hS.news (j := 0) rfl _ _ hcm2).1
    have hend := held_end hP hlt
    rw [val_at' hml, List.getD_eq_getElem?_getD, List.getElem?_eq_getElem hdl, Option.getD_some] at hend
    refine cw_skip ?_
    refine pq_then ?_
    refine cw_seq ?_
    refine cw_block ?_
    refine cw_seq ?_
    refine al_start' hS (hS.take 1) (by kernel_rfl) rfl (fun w hS hT => ?_)
    refine al_take (i := 0) rfl (by kernel_rfl) (by kernel_rfl) (by kernel_rfl) rfl (fun _ _ _ h => h) (op_move rfl) rfl ?_
    refine al_take (i := 1) rfl (by kernel_rfl) (by kernel_rfl) (by kernel_rfl) rfl (fun _ _ _ h => h) (op_move rfl) rfl ?_
    refine al_take (i := 2) rfl (by kernel_rfl) (by kernel_rfl) (by kernel_rfl) rfl (fun _ _ _ h => h) (op_indexN sl_49 rfl rfl (by omega) hoD) rfl ?_
    refine al_load (i := 3) rfl (by kernel_rfl) (by kernel_rfl) (by kernel_rfl) rfl (fun _ _ _ h => h) (by exact op_load1 one_4 rfl (fun w hw => hw.rcell (i := 0) rfl hcm2)) rfl hT ?_
    refine al_take (i := 4) rfl (by kernel_rfl) (by kernel_rfl) (by kernel_rfl) rfl (fun _ _ _ h => h) (op_move rfl) rfl ?_
    refine al_take (i := 5) rfl (by kernel_rfl) (by kernel_rfl) (by kernel_rfl) rfl (fun _ _ _ h => h) (op_move rfl) rfl ?_
    refine al_take (i := 6) rfl (by kernel_rfl) (by kernel_rfl) (by kernel_rfl) rfl (fun _ _ _ h => h) (op_indexN sl_28 rfl rfl (by omega) hoM) rfl ?_
    refine al_load (i := 7) rfl (by kernel_rfl) (by kernel_rfl) (by kernel_rfl) rfl (fun _ _ _ h => h) (by exact op_load1 one_3 rfl (fun w hw => hw.gcell hcM)) rfl hT ?_
    refine al_take (i := 8) rfl (by kernel_rfl) (by kernel_rfl) (by kernel_rfl) rfl (fun _ _ _ h => h) (op_eql rfl rfl) rfl ?_
    refine al_take (i := 9) rfl (by kernel_rfl) (by kernel_rfl) (by kernel_rfl) rfl (fun _ _ _ h => h) (op_neqB Try.underlying4 rfl rfl) rfl ?_
    refine al_done (by kernel_rfl) ?_
    refine pq_then ?_
    refine cw_cond rfl (fun h93 => ?_) (fun h93 => ?_)
    ·
     skip
     try simp only [decide_eq_true_eq, decide_eq_false_iff_not, Bool.not_eq_true', Bool.not_eq_false', Bool.not_eq_eq_eq_not, Bool.not_true, Bool.not_false] at h93
     refine cw_seq ?_
     refine cw_region ?_
     refine ol_pure rfl (op_assign rfl) ?_
     refine ol_nil ?_
     refine pq_then ?_
     refine cw_ret ?_
     refine pq_in_ret ?_
     refine pq_ret ?_
     refine pq_ret ?_
     refine pq_in_ret ?_
     refine pq_ret ?_
     refine ret1 rfl rfl ?_
     exfalso
     rw [hend] at h93
     simp at h93
    ·
     skip
     try simp only [decide_eq_true_eq, decide_eq_false_iff_not, Bool.not_eq_true', Bool.not_eq_false', Bool.not_eq_eq_eq_not, Bool.not_true, Bool.not_false] at h93
     refine cw_skip ?_
     refine pq_in_normal ?_
     refine pq_then ?_
     refine cw_region ?_
     refine ol_pure rfl (op_move rfl) ?_
     refine ol_pure rfl (op_add rfl rfl (by omega) (by omega)) ?_
     refine ol_pure rfl (op_assign rfl) ?_
     refine ol_nil ?_
     refine pq_loop _ _ (by exact ⟨j + 1, rfl, by omega, rfl, hS⟩) ((Sub.cons rfl (Sub.cons rfl (Sub.cons rfl (Sub.cons rfl (Sub.cons rfl Sub.nil)))))) (by omega)
   ·
    skip
    try simp only [decide_eq_true_eq, decide_eq_false_iff_not, Bool.not_eq_true', Bool.not_eq_false', Bool.not_eq_eq_eq_not, Bool.not_true, Bool.not_false] at h81
    refine cw_exit ?_
    refine pq_exit ?_
    refine pq_exit ?_
    refine pq_in_exit ?_
    refine pq_then ?_
    refine cw_seq ?_
    refine cw_seq ?_
    refine cw_region ?_
    refine ol_pure rfl (op_assign rfl) ?_
    refine ol_nil ?_
    refine pq_then ?_
    refine cw_block ?_
    refine cw_loop (fun e w n => ∃ (k : Nat), e = [(5, .bool true), (6, .pointer (some ⟨b6, 0, none⟩)), (8, .slice oM atoms.length cM), (12, .int .i64 (k : Nat))] ∧ k ≤ rs.length ∧ n = rs.length - k ∧ SS G w0 Gd [.row od atoms.length atoms.length 4 1 ((marks atoms.length ((whyP atoms.length rs).2.map (headOf rs))).map Value.bool), .blk b7 34 [.slice oS1 (whyP atoms.length rs).1.length cS1, .slice oH1 (whyP atoms.length rs).2.length cH1], .blk b6 26 [.slice oA atoms.length cA, .slice oR rs.length cR]] w) _ _ (by exact ⟨0, rfl, Nat.zero_le _, rfl, hS⟩) ((Sub.cons rfl (Sub.cons rfl (Sub.cons rfl (Sub.cons rfl Sub.nil))))) ?_
    clear hS
    rintro e w n ⟨k, rfl, hk0, rfl, hS⟩
    refine cw_seq ?_
    refine cw_seq ?_
    refine cw_region ?_
    refine ol_pure rfl (op_move rfl) ?_
    refine ol_pure rfl (op_fieldAddr fld_26_1 rfl) ?_
    refine ol_load rfl (op_load1 one_22 rfl (fun w hw => (hw.bcell (i := 2) rfl).trans rfl)) hS ?_
    refine ol_pure rfl (op_len sl_22 rfl rfl) ?_
    refine ol_pure rfl (op_lss rfl rfl) ?_
    refine ol_nil ?_
    refine pq_then ?_
    refine cw_cond rfl (fun h98 => ?_) (fun h98 => ?_)
    ·
     skip
     try simp only [decide_eq_true_eq, decide_eq_false_iff_not, Bool.not_eq_true', Bool.not_eq_false', Bool.not_eq_eq_eq_not, Bool.not_true, Bool.not_false] at h98
     have hk : k < rs.length := by omega
     obtain ⟨hoR, _, _, ⟨p, q, rfl, hp, hq, hhd⟩, hcellR⟩ := hR.el hk
     obtain ⟨op, cp, rfl, _, _⟩ := hp.elim
     obtain ⟨oq, cq, rfl, _, _⟩ := hq.elim
     have hrk := (hP.rule _ (List.getElem_mem hk)).1
     obtain ⟨hh, hhe⟩ := Int.eq_ofNat_of_zero_le hrk.1.1
     have hhn : hh < (knownI atoms.length (whyP atoms.length rs).1).length := by rw [known_len]; have := hrk.1.2; omega
     obtain ⟨hoM, hcM, _⟩ := hMm.int hhn
     have hvh : valI (knownI atoms.length (whyP atoms.length rs).1) rs[k].head = (knownI atoms.length (whyP atoms.length rs).1)[hh] := by rw [hhe]; exact val_at' hhn
     have hnone := held_none hP hk
     rw [hvh] at hnone
     have hrm : RuleOk (knownI atoms.length (whyP atoms.length rs).1).length rs[k] := by rw [known_len]; exact hrk
     refine cw_skip ?_
     refine pq_then ?_
     refine cw_seq ?_
     refine cw_block ?_
     refine cw_seq ?_
     refine cw_region ?_
     refine ol_pure rfl (op_fieldAddr fld_26_1 rfl) ?_
     refine ol_load rfl (op_load1 one_22 rfl (fun w hw => (hw.bcell (i := 2) rfl).trans rfl)) hS ?_
     refine ol_pure rfl (op_move rfl) ?_
     refine ol_pure rfl (op_indexN sl_22 rfl rfl (by omega) hoR) ?_
     refine ol_load rfl (op_loadN agg_30 rfl (by rfl) (fun w hw k u hk => hw.gcell (hcellR _ u hk))) hS ?_
     refine ol_step rfl (op_alloc hS el_30 rfl) ?_
     clear hS
     rintro _ w ⟨b13, rfl, hS⟩
     refine ol_step0  (op_storeN (j := 0) hS sz_30 rfl rfl rfl rfl rfl (by simp [Value.oneCell'])) ?_
     clear hS
     rintro _ w hS; (try simp only [List.nil_append, List.cons_append, List.set] at hS)
     refine ol_nil ?_
     refine pq_then ?_
     refine cw_seq ?_
     refine cw_region ?_
     refine ol_pure rfl (op_move rfl) ?_
     refine ol_pure rfl (op_fieldAddr fld_30_0 rfl) ?_
     refine ol_load rfl (op_load1 one_3 rfl (fun w hw => (hw.bcell (i := 0) rfl).trans rfl)) hS ?_
     refine ol_pure rfl (op_indexAddr sl_28 rfl rfl (by omega) (by have := hrk.1.2; omega) hoM) ?_
     refine ol_load rfl (op_load1 one_3 rfl (fun w hw => hw.gcell (by rw [hhe]; exact hcM))) hS ?_
     refine ol_pure rfl (op_eql rfl rfl) ?_
     refine ol_pure rfl (op_move rfl) ?_
     refine ol_split (fun h112 => ?_) (fun h112 => ?_)
     ·
      skip
      try simp only [decide_eq_true_eq, decide_eq_false_iff_not, Bool.not_eq_true', Bool.not_eq_false', Bool.not_eq_eq_eq_not, Bool.not_true, Bool.not_false] at h112
      refine ol_guard_pure rfl rfl rfl (op_move rfl) ?_
      refine ol_guard_pure rfl rfl rfl (op_fieldAddr fld_30_1 rfl) ?_
      refine ol_guard_load rfl rfl rfl (op_load1 one_28 rfl (fun w hw => (hw.bcell (i := 0) rfl).trans rfl)) hS ?_
      refine ol_guard_step rfl rfl rfl (op_call_sc hS cf_27 rfl (R21_All_c _ _ hS.hold _ _ hMm _ rs[k].pos 2 hp hrm.2.1)) ?_
      clear hS
      rintro _ w ⟨rfl, hS⟩
      refine ol_pure rfl (op_pick_t rfl rfl) ?_
      refine ol_pure rfl (op_move rfl) ?_
      refine ol_split (fun h118 => ?_) (fun h118 => ?_)
      ·
       skip
       try simp only [decide_eq_true_eq, decide_eq_false_iff_not, Bool.not_eq_true', Bool.not_eq_false', Bool.not_eq_eq_eq_not, Bool.not_true, Bool.not_false] at h118
       refine ol_guard_pure rfl rfl rfl (op_move rfl) ?_
       refine ol_guard_pure rfl rfl rfl (op_fieldAddr fld_30_2 rfl) ?_
       refine ol_guard_load rfl rfl rfl (op_load1 one_28 rfl (fun w hw => (hw.bcell (i := 0) rfl).trans rfl)) hS ?_
       refine ol_guard_step rfl rfl rfl (op_call_sc hS cf_27 rfl (R21_All_c _ _ hS.hold _ _ hMm _ rs[k].neg 0 hq hrm.2.2)) ?_
       clear hS
       rintro _ w ⟨rfl, hS⟩
       refine ol_pure rfl (op_pick_t rfl rfl) ?_
       refine ol_nil ?_
       refine pq_then ?_
       refine cw_cond rfl (fun h123 => ?_) (fun h123 => ?_)
       ·
        skip
        try simp only [decide_eq_true_eq, decide_eq_false_iff_not, Bool.not_eq_true', Bool.not_eq_false', Bool.not_eq_eq_eq_not, Bool.not_true, Bool.not_false] at h123
        refine cw_seq ?_
        refine cw_region ?_
        refine ol_pure rfl (op_assign rfl) ?_
        refine ol_nil ?_
        refine pq_then ?_
        refine cw_ret ?_
        refine pq_in_ret ?_
        refine pq_ret ?_
        refine pq_ret ?_
        refine pq_in_ret ?_
        refine pq_ret ?_
        refine ret1 rfl rfl ?_
        exfalso
        unfold firesB at hnone
        simp_all
       ·
        skip
        try simp only [decide_eq_true_eq, decide_eq_false_iff_not, Bool.not_eq_true', Bool.not_eq_false', Bool.not_eq_eq_eq_not, Bool.not_true, Bool.not_false] at h123
        refine cw_skip ?_
        refine pq_in_normal ?_
        refine pq_then ?_
        refine cw_region ?_
        refine ol_pure rfl (op_move rfl) ?_
        refine ol_pure rfl (op_add rfl rfl (by omega) (by omega)) ?_
        refine ol_pure rfl (op_assign rfl) ?_
        refine ol_nil ?_
        refine pq_loop _ _ (by exact (by
            replace hS := SS.drop [] hS
            exact ⟨k + 1, rfl, by omega, rfl, hS⟩)) ((Sub.cons rfl (Sub.cons rfl (Sub.cons rfl (Sub.cons rfl Sub.nil))))) (by omega)
      ·
       skip
       try simp only [decide_eq_true_eq, decide_eq_false_iff_not, Bool.not_eq_true', Bool.not_eq_false', Bool.not_eq_eq_eq_not, Bool.not_true, Bool.not_false] at h118
       refine ol_guard_no rfl rfl rfl rfl ?_
       refine ol_guard_no rfl rfl rfl rfl ?_
       refine ol_guard_no rfl rfl rfl rfl ?_
       refine ol_guard_no rfl rfl rfl rfl ?_
       refine ol_pure rfl (op_pick_f rfl rfl) ?_
       refine ol_nil ?_
       refine pq_then ?_
       refine cw_cond_f rfl ?_
       refine cw_skip ?_
       refine pq_in_normal ?_
       refine pq_then ?_
       refine cw_region ?_
       refine ol_pure rfl (op_move rfl) ?_
       refine ol_pure rfl (op_add rfl rfl (by omega) (by omega)) ?_
       refine ol_pure rfl (op_assign rfl) ?_
       refine ol_nil ?_
       refine pq_loop _ _ (by exact (by
           replace hS := SS.drop [] hS
           exact ⟨k + 1, rfl, by omega, rfl, hS⟩)) ((Sub.cons rfl (Sub.cons rfl (Sub.cons rfl (Sub.cons rfl Sub.nil))))) (by omega)
     ·
      skip
      try simp only [decide_eq_true_eq, decide_eq_false_iff_not, Bool.not_eq_true', Bool.not_eq_false', Bool.not_eq_eq_eq_not, Bool.not_true, Bool.not_false] at h112
      refine ol_guard_no rfl rfl rfl rfl ?_
      refine ol_guard_no rfl rfl rfl rfl ?_
      refine ol_guard_no rfl rfl rfl rfl ?_
      refine ol_guard_no rfl rfl rfl rfl ?_
      refine ol_pure rfl (op_pick_f rfl rfl) ?_
      refine ol_pure rfl (op_move rfl) ?_
      refine ol_guard_no rfl rfl rfl rfl ?_
      refine ol_guard_no rfl rfl rfl rfl ?_
      refine ol_guard_no rfl rfl rfl rfl ?_
      refine ol_guard_no rfl rfl rfl rfl ?_
      refine ol_pure rfl (op_pick_f rfl rfl) ?_
      refine ol_nil ?_
      refine pq_then ?_
      refine cw_cond_f rfl ?_
      refine cw_skip ?_
      refine pq_in_normal ?_
      refine pq_then ?_
      refine cw_region ?_
      refine ol_pure rfl (op_move rfl) ?_
      refine ol_pure rfl (op_add rfl rfl (by omega) (by omega)) ?_
      refine ol_pure rfl (op_assign rfl) ?_
      refine ol_nil ?_
      refine pq_loop _ _ (by exact (by
          replace hS := SS.drop [] hS
          exact ⟨k + 1, rfl, by omega, rfl, hS⟩)) ((Sub.cons rfl (Sub.cons rfl (Sub.cons rfl (Sub.cons rfl Sub.nil))))) (by omega)
    ·
     skip
     try simp only [decide_eq_true_eq, decide_eq_false_iff_not, Bool.not_eq_true', Bool.not_eq_false', Bool.not_eq_eq_eq_not, Bool.not_true, Bool.not_false] at h98
     refine cw_exit ?_
     refine pq_exit ?_
     refine pq_exit ?_
     refine pq_in_exit ?_
     refine pq_then ?_
     refine cw_seq ?_
     refine cw_region ?_
     refine ol_pure rfl (op_move rfl) ?_
     refine ol_pure rfl (op_assign rfl) ?_
     refine ol_nil ?_
     refine pq_then ?_
     refine cw_ret ?_
     refine ret1 rfl rfl ?_
     exact hS.sc_b rfl
end Go.Proofs.Ytmkgechdfimfnaa.K
