/-
  JustAgain: its walk.
  No condition but the premises that each theorem names.
-/
import Derived.Test.YtmkgechdfimfnaaLJhead
import Derived.Test.YtmkgechdfimfnaaPly
import Derived.Test.YtmkgechdfimfnaaR21c
import Derived.Test.YtmkgechdfimfnaaR21e
import Derived.Test.YtmkgechdfimfnaaArr
namespace Go.Proofs.Ytmkgechdfimfnaa.K
open Go Go.RowKit
set_option linter.unusedVariables false
set_option linter.unusedSimpArgs false

open Pl

set_option maxRecDepth 100000 in
set_option maxHeartbeats 16000000 in

theorem L21_JustAgain_c (G : GH) (w0 : World) (hG : Holds G w0) (v : Value) (l : List Rule) (h1 : RSl 3 ERule G v l) (z : Int) (hz : 0 ≤ z ∧ z ≤ 255) (y1 y2 : Int) (hy1 : 0 ≤ y1 ∧ y1 ≤ 255) (hy2 : 0 ≤ y2 ∧ y2 ≤ 255) :
   Calls Try.prog 9 #[v, .int .u8 z, .agg #[.int .u8 y1, .int .u8 y2]] w0 (Sc w0 (.bool true)) := by
 refine enter Try.func9 rfl (N := 118) rfl (Nat.le_of_ble_eq_true rfl) ?_
 have hS := SS.init hG
 refine cw_seq ?_
 refine cw_region ?_
 refine ol_step rfl (op_box hS rfl rfl) ?_
 clear hS
 rintro _ w ⟨b5, rfl, hS⟩
 refine ol_pure rfl (op_assign rfl) ?_
 refine ol_nil ?_
 refine pq_then ?_
 refine cw_seq ?_
 refine cw_region ?_
 refine ol_step rfl (op_call_sc hS cf_10 rfl (L21_head_c G _ hS.hold)) ?_
 clear hS
 rintro _ w ⟨rfl, hS⟩
 refine ol_pure rfl (op_assign rfl) ?_
 refine ol_nil ?_
 refine pq_then ?_
 refine cw_seq ?_
 refine cw_region ?_
 refine ol_pure rfl (op_move rfl) ?_
 refine ol_pure rfl (op_move rfl) ?_
 refine ol_step rfl (op_call_rt hS cf_11 rfl (fun _ => .inr rfl) (madeMono ETriv.mono) (R18_Made_c _ _ hS.hold v l h1 z hz)) ?_
 clear hS
 rintro v20 w ⟨Gm, hl20, hR20, hS⟩
 obtain ⟨va, vr, rfl, hA, hR⟩ := hR20
 have hmr := madeN_range z
 have hok := madeR_ok l hmr.1 hmr.2
 obtain ⟨atoms, hat⟩ : ∃ atoms : List Unit, atoms = List.replicate (madeN z) () := ⟨_, rfl⟩
 have hal : atoms.length = madeN z := by rw [hat]; simp
 rw [← hat] at hA
 have hP : PrOk atoms.length (madeR l (madeN z)) := by rw [hal]; exact hok.1
 have hNg := hok.2
 rw [← hal] at hmr
 clear hok hal hat
 generalize madeR l (madeN z) = rs at hR hP hNg
 obtain ⟨oA, cA, rfl, _, _⟩ := hA.elim
 obtain ⟨oR, cR, rfl, _, _⟩ := hR.elim
 have hwr := why_runs hP
 have hPn := hP.n_le
 have hPm := hP.m_le
 have hsl := hwr.1.len
 have hlo := hwr.1.lean hP
 have hsm : ∀ s ∈ (whyP atoms.length rs).1, s.atoms.length ≤ 1000 := fun s hs => by have := hwr.1.small s hs; omega
 have hng : ∀ r ∈ rs, r.neg.length ≤ 1000 := fun r hr => by have := (hNg r hr).2; omega
 have hn0 : (0 : Int) < atoms.length := by omega
 obtain ⟨aa, haa⟩ : ∃ aa : Nat, y1 % (atoms.length : Nat) = (aa : Int) := Int.eq_ofNat_of_zero_le (Int.emod_nonneg _ (by omega))
 have hal : aa < atoms.length := by have := Int.emod_lt_of_pos y1 hn0; omega
 obtain ⟨bb, hbb⟩ : ∃ bb : Nat, y2 % (atoms.length : Nat) = (bb : Int) := Int.eq_ofNat_of_zero_le (Int.emod_nonneg _ (by omega))
 have hbl : bb < atoms.length := by have := Int.emod_lt_of_pos y2 hn0; omega
 have ha0 : (0 : Int) ≤ aa := by omega
 have ha1 : (aa : Int) < atoms.length := by omega
 have hb0 : (0 : Int) ≤ bb := by omega
 have hb1 : (bb : Int) < atoms.length := by omega
 refine ol_step rfl (op_alloc hS el_26 rfl) ?_
 clear hS
 rintro _ w ⟨b8, rfl, hS⟩
 refine ol_step0  (op_storeN (j := 0) hS sz_26 rfl rfl rfl rfl rfl (by simp [Value.oneCell'])) ?_
 clear hS
 rintro _ w hS; (try simp only [List.nil_append, List.cons_append, List.set] at hS)
 refine ol_nil ?_
 refine pq_then ?_
 refine cw_seq ?_
 refine al_start' hS (hS.take 2) (by kernel_rfl) rfl (fun w hS hT => ?_)
 refine al_take (i := 0) rfl (by kernel_rfl) (by kernel_rfl) (by kernel_rfl) rfl (fun _ _ _ h => h) (op_indexArr (i := 0) Try.underlying53 (sz_of (by kernel_rfl)) rfl rfl (by decide) (by decide)) rfl ?_
 refine al_load (i := 1) rfl (by kernel_rfl) (by kernel_rfl) (by kernel_rfl) rfl (fun _ _ _ h => h) (by exact op_load1 one_5 rfl (fun w hw => (hw.bcell (i := 1) (k := 0) rfl).trans rfl)) rfl hT ?_
 refine al_take (i := 2) rfl (by kernel_rfl) (by kernel_rfl) (by kernel_rfl) rfl (fun _ _ _ h => h) (op_conv ⟨_, Try.underlying5⟩ Try.underlying3 rfl (wrap_u8 hy1)) rfl ?_
 refine al_take (i := 3) rfl (by kernel_rfl) (by kernel_rfl) (by kernel_rfl) rfl (fun _ _ _ h => h) (op_fieldAddr fld_26_0 rfl) rfl ?_
 refine al_load (i := 4) rfl (by kernel_rfl) (by kernel_rfl) (by kernel_rfl) rfl (fun _ _ _ h => h) (by exact op_load1 one_24 rfl (fun w hw => (hw.bcell (i := 0) rfl).trans rfl)) rfl hT ?_
 refine al_take (i := 5) rfl (by kernel_rfl) (by kernel_rfl) (by kernel_rfl) rfl (fun _ _ _ h => h) (op_len sl_24 rfl rfl) rfl ?_
 refine al_take (i := 6) rfl (by kernel_rfl) (by kernel_rfl) (by kernel_rfl) rfl (fun _ _ _ h => h) (op_val (op_rem rfl rfl (by omega) (by omega)) (congrArg (Value.int .i64) haa)) rfl ?_
 refine al_take (i := 7) rfl (by kernel_rfl) (by kernel_rfl) (by kernel_rfl) rfl (fun _ _ _ h => h) (op_indexArr (i := 1) Try.underlying53 (sz_of (by kernel_rfl)) rfl rfl (by decide) (by decide)) rfl ?_
 refine al_load (i := 8) rfl (by kernel_rfl) (by kernel_rfl) (by kernel_rfl) rfl (fun _ _ _ h => h) (by exact op_load1 one_5 rfl (fun w hw => (hw.bcell (i := 1) (k := 1) rfl).trans rfl)) rfl hT ?_
 refine al_take (i := 9) rfl (by kernel_rfl) (by kernel_rfl) (by kernel_rfl) rfl (fun _ _ _ h => h) (op_conv ⟨_, Try.underlying5⟩ Try.underlying3 rfl (wrap_u8 hy2)) rfl ?_
 refine al_take (i := 10) rfl (by kernel_rfl) (by kernel_rfl) (by kernel_rfl) rfl (fun _ _ _ h => h) (op_fieldAddr fld_26_0 rfl) rfl ?_
 refine al_load (i := 11) rfl (by kernel_rfl) (by kernel_rfl) (by kernel_rfl) rfl (fun _ _ _ h => h) (by exact op_load1 one_24 rfl (fun w hw => (hw.bcell (i := 0) rfl).trans rfl)) rfl hT ?_
 refine al_take (i := 12) rfl (by kernel_rfl) (by kernel_rfl) (by kernel_rfl) rfl (fun _ _ _ h => h) (op_len sl_24 rfl rfl) rfl ?_
 refine al_take (i := 13) rfl (by kernel_rfl) (by kernel_rfl) (by kernel_rfl) rfl (fun _ _ _ h => h) (op_val (op_rem rfl rfl (by omega) (by omega)) (congrArg (Value.int .i64) hbb)) rfl ?_
 refine al_load (i := 14) rfl (by kernel_rfl) (by kernel_rfl) (by kernel_rfl) rfl (fun _ _ _ h => h) (by exact op_loadN agg_26 rfl (by rfl) (fun w hw k u hk => (hw.bcell (i := 0) rfl).trans hk)) rfl hT ?_
 refine al_meet (fuel2 := 3) (ds2 := [16, 15, 14, 13, 12, 11, 10, 9, 8, 7, 6, 5, 4, 3, 2, 1, 0]) (fun e w => ∃ oS1 cS1 oH1 cH1 b11 Gd, e = [(5, .pointer (some ⟨b5, 0, none⟩)), (7, .bool true), (8, .pointer (some ⟨b8, 0, none⟩)), (11, .pointer (some ⟨b11, 0, none⟩)), (27, .int .i64 (aa : Nat)), (34, .int .i64 (bb : Nat)), (36, .agg #[.slice oS1 (whyP atoms.length rs).1.length cS1, .slice oH1 (whyP atoms.length rs).2.length cH1])] ∧ Le Gm Gd ∧ RSl 2 EStep Gd (.slice oS1 (whyP atoms.length rs).1.length cS1) (whyP atoms.length rs).1 ∧ RSl 1 EInt Gd (.slice oH1 (whyP atoms.length rs).2.length cH1) (whyP atoms.length rs).2 ∧ SS G w0 Gd [.blk b11 34 [.slice none 0 0, .slice none 0 0], .blk b8 26 [.slice oA atoms.length cA, .slice oR rs.length cR], .blk b5 53 [.int .u8 y1, .int .u8 y2]] w) (fun K3 => ?_) ?_
 ·
  skip
  refine al_two (i := 15) (j := 16) (by kernel_rfl) (fun a ha => ?_) (fun a ha => ?_)
  ·
   skip
   refine wpOp_of_opk (i := 15) rfl ha (op_call_rt hS cf_15 rfl (fun _ => .inr rfl) (whyMono) (R21_Why_c _ _ hS.hold ETriv.mono _ _ atoms rs hA hR hP)) ?_
   clear hS
   rintro v36 w ⟨Gw, hl36, hR36, hS⟩
   obtain ⟨vs1, vh1, rfl, hs1, hh1⟩ := hR36
   obtain ⟨oS1, cS1, rfl, _, _⟩ := hs1.elim
   obtain ⟨oH1, cH1, rfl, _, _⟩ := hh1.elim
   replace hA := hA.mono ETriv.mono hl36
   replace hR := hR.mono ERule.mono hl36
   have hT := hT.back hS (by first | exact Le.refl _ | assumption) (fun x hx => by try simp only [List.take_succ_cons, List.take_zero, List.mem_cons, List.not_mem_nil, or_false] at hx; (rcases hx with rfl | rfl) <;> simp)
   refine ⟨fun _ _ => hT, ?_⟩
   refine al_at ?_ (ha.put (blt_lt rfl) _)
   refine al_step (i := 16) rfl (by kernel_rfl) rfl (op_alloc hS el_34 rfl) ?_
   clear hS
   rintro _ w ⟨b11, rfl, hS⟩
   have hT := hT.back hS (by first | exact Le.refl _ | assumption) (fun x hx => by try simp only [List.take_succ_cons, List.take_zero, List.mem_cons, List.not_mem_nil, or_false] at hx; (rcases hx with rfl | rfl) <;> simp)
   refine ⟨fun _ _ => hT, ?_⟩
   exact K3 _ _ _ _ (by kernel_rfl) (by exact ⟨oS1, cS1, oH1, cH1, b11, Gw, rfl, hl36, hs1, hh1, hS⟩) ((Sub.cons rfl (Sub.cons rfl (Sub.cons rfl (Sub.cons rfl (Sub.cons rfl (Sub.cons rfl (Sub.cons rfl Sub.nil))))))))
  ·
   skip
   refine wpOp_of_opk (i := 16) rfl ha (op_alloc hS el_34 rfl) ?_
   clear hS
   rintro _ w ⟨b11, rfl, hS⟩
   have hT := hT.back hS (by first | exact Le.refl _ | assumption) (fun x hx => by try simp only [List.take_succ_cons, List.take_zero, List.mem_cons, List.not_mem_nil, or_false] at hx; (rcases hx with rfl | rfl) <;> simp)
   refine ⟨fun _ _ => hT, ?_⟩
   refine al_at ?_ (ha.put (blt_lt rfl) _)
   refine al_step (i := 15) rfl (by kernel_rfl) rfl (op_call_rt hS cf_15 rfl (fun _ => .inr rfl) (whyMono) (R21_Why_c _ _ hS.hold ETriv.mono _ _ atoms rs hA hR hP)) ?_
   clear hS
   rintro v36 w ⟨Gw, hl36, hR36, hS⟩
   obtain ⟨vs1, vh1, rfl, hs1, hh1⟩ := hR36
   obtain ⟨oS1, cS1, rfl, _, _⟩ := hs1.elim
   obtain ⟨oH1, cH1, rfl, _, _⟩ := hh1.elim
   replace hA := hA.mono ETriv.mono hl36
   replace hR := hR.mono ERule.mono hl36
   have hT := hT.back hS (by first | exact Le.refl _ | assumption) (fun x hx => by try simp only [List.take_succ_cons, List.take_zero, List.mem_cons, List.not_mem_nil, or_false] at hx; (rcases hx with rfl | rfl) <;> simp)
   refine ⟨fun _ _ => hT, ?_⟩
   exact K3 _ _ _ _ (by kernel_rfl) (by exact ⟨oS1, cS1, oH1, cH1, b11, Gw, rfl, hl36, hs1, hh1, hS⟩) ((Sub.cons rfl (Sub.cons rfl (Sub.cons rfl (Sub.cons rfl (Sub.cons rfl (Sub.cons rfl (Sub.cons rfl Sub.nil))))))))
 ·
  skip
  have hTo := hT
  clear hS hT
  rintro e w ⟨oS1, cS1, oH1, cH1, b11, Gd, rfl, hld, hs1, hh1, hS⟩
  have hT := hTo.back hS (by first | exact Le.refl _ | assumption) (fun x hx => by try simp only [List.take_succ_cons, List.take_zero, List.mem_cons, List.not_mem_nil, or_false] at hx; (rcases hx with rfl | rfl) <;> simp)
  clear hTo
  replace hA := hA.mono ETriv.mono hld
  replace hR := hR.mono ERule.mono hld
  refine al_take (i := 17) rfl (by kernel_rfl) (by kernel_rfl) (by kernel_rfl) rfl (fun _ _ _ h => h) (op_assign rfl) rfl ?_
  refine al_take (i := 18) rfl (by kernel_rfl) (by kernel_rfl) (by kernel_rfl) rfl (fun _ _ _ h => h) (op_assign rfl) rfl ?_
  refine al_step0 (i := 19) rfl (by kernel_rfl) (op_storeN (j := 0) hS sz_34 rfl rfl rfl rfl rfl (by simp [Value.oneCell'])) ?_
  clear hS
  rintro _ w hS; (try simp only [List.nil_append, List.cons_append, List.set] at hS)
  refine ⟨no_need (by kernel_rfl), ?_⟩
  refine al_done (by kernel_rfl) ?_
  refine pq_then ?_
  refine cw_seq ?_
  refine cw_region ?_
  refine ol_load rfl (op_loadN agg_26 rfl (by rfl) (fun w hw k u hk => (hw.bcell (i := 1) rfl).trans hk)) hS ?_
  refine ol_load rfl (op_loadN agg_34 rfl (by rfl) (fun w hw k u hk => (hw.bcell (i := 0) rfl).trans hk)) hS ?_
  refine ol_pure rfl (op_move rfl) ?_
  refine ol_step rfl (op_call_rt hS cf_14 rfl (fun _ => .inr rfl) (whyMono) (just_For_c _ _ hS.hold ETriv.mono _ _ atoms rs hA hR hP _ _ _ _ hs1 hh1 hlo (by omega) (aa : Int))) ?_
  clear hS
  rintro v40 w ⟨Gq, hl40, hR40, hS⟩
  obtain ⟨vs40, vh40, rfl, hq, hu⟩ := hR40
  obtain ⟨oQ, cQ, rfl, _, _⟩ := hq.elim
  obtain ⟨oU, cU, rfl, _, _⟩ := hu.elim
  replace hA := hA.mono ETriv.mono hl40
  replace hR := hR.mono ERule.mono hl40
  replace hs1 := hs1.mono EStep.mono hl40
  replace hh1 := hh1.mono EInt.mono hl40
  refine ol_step rfl (op_alloc hS el_34 rfl) ?_
  clear hS
  rintro _ w ⟨b12, rfl, hS⟩
  refine ol_step0  (op_storeN (j := 0) hS sz_34 rfl rfl rfl rfl rfl (by simp [Value.oneCell'])) ?_
  clear hS
  rintro _ w hS; (try simp only [List.nil_append, List.cons_append, List.set] at hS)
  refine ol_nil ?_
  refine pq_then ?_
  refine cw_seq ?_
  refine cw_seq ?_
  refine cw_region ?_
  refine ol_load rfl (op_loadN agg_34 rfl (by rfl) (fun w hw k u hk => (hw.bcell (i := 1) rfl).trans hk)) hS ?_
  refine ol_pure rfl (op_move rfl) ?_
  refine ol_step rfl (op_call_sc hS cf_29 rfl (R21_By_c _ _ hS.hold _ _ _ hs1 ⟨_, _, _, rfl⟩ (aa : Int))) ?_
  clear hS
  rintro _ w ⟨rfl, hS⟩
  refine ol_pure rfl (op_lss rfl rfl) ?_
  refine ol_nil ?_
  refine pq_then ?_
  refine cw_cond rfl (fun h44 => ?_) (fun h44 => ?_)
  ·
   skip
   try simp only [decide_eq_true_eq, decide_eq_false_iff_not, Bool.not_eq_true', Bool.not_eq_false', Bool.not_eq_eq_eq_not, Bool.not_true, Bool.not_false] at h44
   have hfo := for_noby (rs := rs) (p := (whyP atoms.length rs)) ha0 ha1 h44
   rw [hfo] at hS hq hu ⊢
   refine cw_seq ?_
   refine al_start' hS (hS.take 3) (by kernel_rfl) rfl (fun w hS hT => ?_)
   refine al_load (i := 0) rfl (by kernel_rfl) (by kernel_rfl) (by kernel_rfl) rfl (fun _ _ _ h => h) (by exact op_loadN agg_26 rfl (by rfl) (fun w hw k u hk => (hw.bcell (i := 2) rfl).trans hk)) rfl hT ?_
   refine al_load (i := 1) rfl (by kernel_rfl) (by kernel_rfl) (by kernel_rfl) rfl (fun _ _ _ h => h) (by exact op_loadN agg_34 rfl (by rfl) (fun w hw k u hk => (hw.bcell (i := 0) rfl).trans hk)) rfl hT ?_
   refine al_take (i := 2) rfl (by kernel_rfl) (by kernel_rfl) (by kernel_rfl) rfl (fun _ _ _ h => h) (op_move rfl) rfl ?_
   refine al_load (i := 4) rfl (by kernel_rfl) (by kernel_rfl) (by kernel_rfl) rfl (fun _ _ _ h => h) (by exact op_loadN agg_34 rfl (by rfl) (fun w hw k u hk => (hw.bcell (i := 0) rfl).trans hk)) rfl hT ?_
   refine al_step (i := 3) rfl (by kernel_rfl) rfl (op_call_rt hS cf_14 rfl (fun _ => .inr rfl) (whyMono) (whyRt (just_For_c _ _ hS.hold ETriv.mono _ _ atoms rs hA hR hP _ _ (whyP atoms.length rs).1 (whyP atoms.length rs).2 hq hu hlo (by omega) (aa : Int)) (l := (whyP atoms.length rs).1) (hs := (whyP atoms.length rs).2) hfo)) ?_
   clear hS
   rintro v48 w ⟨Gr, hl48, hR48, hS⟩
   obtain ⟨vs48, vh48, rfl, hs48, hh48⟩ := hR48
   replace hq := hq.mono EStep.mono hl48
   replace hu := hu.mono EInt.mono hl48
   have hT := hT.back hS (by first | exact Le.refl _ | assumption) (fun x hx => by try simp only [List.take_succ_cons, List.take_zero, List.mem_cons, List.not_mem_nil, or_false] at hx; (rcases hx with rfl | rfl | rfl) <;> simp)
   refine ⟨fun _ _ => hT, ?_⟩
   refine al_step (i := 5) rfl (by kernel_rfl) rfl (op_call_sc hS cf_17 rfl (same_t hS.hold hs48 hh48 hq hu)) ?_
   clear hS
   rintro _ w ⟨rfl, hS⟩
   have hT := hT.back hS (by first | exact Le.refl _ | assumption) (fun x hx => by try simp only [List.take_succ_cons, List.take_zero, List.mem_cons, List.not_mem_nil, or_false] at hx; (rcases hx with rfl | rfl | rfl) <;> simp)
   refine ⟨fun _ _ => hT, ?_⟩
   refine al_take (i := 6) rfl (by kernel_rfl) (by kernel_rfl) (by kernel_rfl) rfl (fun _ _ _ h => h) (op_move rfl) rfl ?_
   refine al_gtake (i := 7) rfl (by kernel_rfl) (by kernel_rfl) (by kernel_rfl) rfl rfl rfl (fun _ _ _ h => h) (op_move rfl) rfl ?_
   refine al_take (i := 8) rfl (by kernel_rfl) (by kernel_rfl) (by kernel_rfl) rfl (fun _ _ _ h => h) (op_pick_t rfl rfl) rfl ?_
   refine al_take (i := 9) rfl (by kernel_rfl) (by kernel_rfl) (by kernel_rfl) rfl (fun _ _ _ h => h) (op_assign rfl) rfl ?_
   refine al_done (by kernel_rfl) ?_
   refine pq_then ?_
   refine cw_ret ?_
   refine pq_ret ?_
   refine ret1 rfl rfl ?_
   exact hS.sc_b rfl
  ·
   skip
   try simp only [decide_eq_true_eq, decide_eq_false_iff_not, Bool.not_eq_true', Bool.not_eq_false', Bool.not_eq_eq_eq_not, Bool.not_true, Bool.not_false] at h44
   have hby : 0 ≤ byI (whyP atoms.length rs).1 (aa : Int) := by omega
   have hfo := for_by (rs := rs) (p := (whyP atoms.length rs)) ha0 ha1 hby
   have hpt := hwr.1.part hP hby
   have hpr := part_runs hwr.1 hP hpt
   obtain ⟨hbq, hag⟩ := part_again hwr.1 hP hby
   have hfq : forI atoms.length rs ((partI (whyP atoms.length rs).1 (needI atoms.length rs (whyP atoms.length rs).1 (aa : Int))), []) (aa : Int) = ((partI (whyP atoms.length rs).1 (needI atoms.length rs (whyP atoms.length rs).1 (aa : Int))), []) := by rw [for_by ha0 ha1 hbq]; exact congrArg (fun x => (x, [])) hag
   have hql := hpr.len
   have hqlean := hpr.lean hP
   have hq1 : RSl 2 EStep Gq (.slice oQ (partI (whyP atoms.length rs).1 (needI atoms.length rs (whyP atoms.length rs).1 (aa : Int))).length cQ) (partI (whyP atoms.length rs).1 (needI atoms.length rs (whyP atoms.length rs).1 (aa : Int))) := by rw [hfo] at hq; exact hq
   have hu1 : RSl 1 EInt Gq (.slice oU ([] : List Int).length cU) [] := by rw [hfo] at hu; exact hu
   rw [hfo] at hS ⊢
   clear hq hu
   refine cw_skip ?_
   refine pq_then ?_
   refine cw_seq ?_
   refine cw_seq ?_
   refine al_start' hS (hS.take 3) (by kernel_rfl) rfl (fun w hS hT => ?_)
   refine al_load (i := 0) rfl (by kernel_rfl) (by kernel_rfl) (by kernel_rfl) rfl (fun _ _ _ h => h) (by exact op_loadN agg_26 rfl (by rfl) (fun w hw k u hk => (hw.bcell (i := 2) rfl).trans hk)) rfl hT ?_
   refine al_load (i := 1) rfl (by kernel_rfl) (by kernel_rfl) (by kernel_rfl) rfl (fun _ _ _ h => h) (by exact op_loadN agg_34 rfl (by rfl) (fun w hw k u hk => (hw.bcell (i := 0) rfl).trans hk)) rfl hT ?_
   refine al_take (i := 2) rfl (by kernel_rfl) (by kernel_rfl) (by kernel_rfl) rfl (fun _ _ _ h => h) (op_move rfl) rfl ?_
   refine al_load (i := 4) rfl (by kernel_rfl) (by kernel_rfl) (by kernel_rfl) rfl (fun _ _ _ h => h) (by exact op_loadN agg_34 rfl (by rfl) (fun w hw k u hk => (hw.bcell (i := 0) rfl).trans hk)) rfl hT ?_
   refine al_step (i := 3) rfl (by kernel_rfl) rfl (op_call_rt hS cf_14 rfl (fun _ => .inr rfl) (whyMono) (whyRt (just_For_c _ _ hS.hold ETriv.mono _ _ atoms rs hA hR hP _ _ (partI (whyP atoms.length rs).1 (needI atoms.length rs (whyP atoms.length rs).1 (aa : Int))) [] hq1 hu1 hqlean (by omega) (aa : Int)) (l := (partI (whyP atoms.length rs).1 (needI atoms.length rs (whyP atoms.length rs).1 (aa : Int)))) (hs := []) hfq)) ?_
   clear hS
   rintro v57 w ⟨Gr, hl57, hR57, hS⟩
   obtain ⟨vs57, vh57, rfl, hs57, hh57⟩ := hR57
   replace hA := hA.mono ETriv.mono hl57
   replace hR := hR.mono ERule.mono hl57
   replace hs1 := hs1.mono EStep.mono hl57
   replace hh1 := hh1.mono EInt.mono hl57
   replace hq1 := hq1.mono EStep.mono hl57
   replace hu1 := hu1.mono EInt.mono hl57
   have hT := hT.back hS (by first | exact Le.refl _ | assumption) (fun x hx => by try simp only [List.take_succ_cons, List.take_zero, List.mem_cons, List.not_mem_nil, or_false] at hx; (rcases hx with rfl | rfl | rfl) <;> simp)
   refine ⟨fun _ _ => hT, ?_⟩
   refine al_step (i := 5) rfl (by kernel_rfl) rfl (op_call_sc hS cf_17 rfl (same_t hS.hold hs57 hh57 hq1 hu1)) ?_
   clear hS
   rintro _ w ⟨rfl, hS⟩
   have hT := hT.back hS (by first | exact Le.refl _ | assumption) (fun x hx => by try simp only [List.take_succ_cons, List.take_zero, List.mem_cons, List.not_mem_nil, or_false] at hx; (rcases hx with rfl | rfl | rfl) <;> simp)
   refine ⟨fun _ _ => hT, ?_⟩
   refine al_take (i := 6) rfl (by kernel_rfl) (by kernel_rfl) (by kernel_rfl) rfl (fun _ _ _ h => h) (op_not rfl) rfl ?_
   refine al_done (by kernel_rfl) ?_
   refine pq_then ?_
   refine cw_cond_f rfl ?_
   refine cw_skip ?_
   refine pq_then ?_
   refine cw_seq ?_
   refine cw_seq ?_
   refine cw_region ?_
   refine ol_load rfl (op_loadN agg_34 rfl (by rfl) (fun w hw k u hk => (hw.bcell (i := 0) rfl).trans hk)) hS ?_
   refine ol_pure rfl (op_move rfl) ?_
   refine ol_step rfl (op_call_sc hS cf_29 rfl (R21_By_c _ _ hS.hold _ _ _ hq1 ⟨_, _, _, rfl⟩ (bb : Int))) ?_
   clear hS
   rintro _ w ⟨rfl, hS⟩
   refine ol_pure rfl (op_lss rfl rfl) ?_
   refine ol_nil ?_
   refine pq_then ?_
   refine cw_cond rfl (fun h64 => ?_) (fun h64 => ?_)
   ·
    skip
    try simp only [decide_eq_true_eq, decide_eq_false_iff_not, Bool.not_eq_true', Bool.not_eq_false', Bool.not_eq_eq_eq_not, Bool.not_true, Bool.not_false] at h64
    refine cw_seq ?_
    refine cw_region ?_
    refine ol_pure rfl (op_move rfl) ?_
    refine ol_pure rfl (op_assign rfl) ?_
    refine ol_nil ?_
    refine pq_then ?_
    refine cw_ret ?_
    refine pq_ret ?_
    refine ret1 rfl rfl ?_
    exact hS.sc_b rfl
   ·
    skip
    try simp only [decide_eq_true_eq, decide_eq_false_iff_not, Bool.not_eq_true', Bool.not_eq_false', Bool.not_eq_eq_eq_not, Bool.not_true, Bool.not_false] at h64
    obtain ⟨hbb0, hin⟩ := part_in hwr.1 hP hby (b := (bb : Int)) (by omega)
    have hfb := for_by (rs := rs) (p := (whyP atoms.length rs)) hb0 hb1 hbb0
    refine cw_skip ?_
    refine pq_then ?_
    refine cw_seq ?_
    refine cw_region ?_
    refine ol_load rfl (op_loadN agg_26 rfl (by rfl) (fun w hw k u hk => (hw.bcell (i := 2) rfl).trans hk)) hS ?_
    refine ol_load rfl (op_loadN agg_34 rfl (by rfl) (fun w hw k u hk => (hw.bcell (i := 1) rfl).trans hk)) hS ?_
    refine ol_pure rfl (op_move rfl) ?_
    refine ol_step rfl (op_call_rt hS cf_14 rfl (fun _ => .inr rfl) (whyMono) (whyRt (just_For_c _ _ hS.hold ETriv.mono _ _ atoms rs hA hR hP _ _ (whyP atoms.length rs).1 (whyP atoms.length rs).2 hs1 hh1 hlo (by omega) (bb : Int)) (l := (partI (whyP atoms.length rs).1 (needI atoms.length rs (whyP atoms.length rs).1 (bb : Int)))) (hs := []) hfb)) ?_
    clear hS
    rintro v69 w ⟨Gs, hl69, hR69, hS⟩
    obtain ⟨vs69, vh69, rfl, hsb, hub⟩ := hR69
    obtain ⟨oB, cB, rfl, _, _⟩ := hsb.elim
    obtain ⟨oV, cV, rfl, _, _⟩ := hub.elim
    replace hA := hA.mono ETriv.mono hl69
    replace hR := hR.mono ERule.mono hl69
    replace hs1 := hs1.mono EStep.mono hl69
    replace hh1 := hh1.mono EInt.mono hl69
    replace hq1 := hq1.mono EStep.mono hl69
    replace hu1 := hu1.mono EInt.mono hl69
    have hsble := hsb.le
    have hqle := hq1.le
    refine ol_step rfl (op_alloc hS el_34 rfl) ?_
    clear hS
    rintro _ w ⟨b13, rfl, hS⟩
    refine ol_step0  (op_storeN (j := 0) hS sz_34 rfl rfl rfl rfl rfl (by simp [Value.oneCell'])) ?_
    clear hS
    rintro _ w hS; (try simp only [List.nil_append, List.cons_append, List.set] at hS)
    refine ol_nil ?_
    refine pq_then ?_
    refine cw_seq ?_
    refine cw_seq ?_
    refine cw_region ?_
    refine ol_pure rfl (op_assign rfl) ?_
    refine ol_nil ?_
    refine pq_then ?_
    refine cw_block ?_
    refine cw_loop (fun e w n => ∃ (i : Nat), e = [(7, .bool true), (12, .pointer (some ⟨b12, 0, none⟩)), (13, .pointer (some ⟨b13, 0, none⟩)), (14, .int .i64 (i : Nat))] ∧ i ≤ (partI (whyP atoms.length rs).1 (needI atoms.length rs (whyP atoms.length rs).1 (bb : Int))).length ∧ n = (partI (whyP atoms.length rs).1 (needI atoms.length rs (whyP atoms.length rs).1 (bb : Int))).length - i ∧ SS G w0 Gs [.blk b13 34 [.slice oB (partI (whyP atoms.length rs).1 (needI atoms.length rs (whyP atoms.length rs).1 (bb : Int))).length cB, .slice oV ([] : List Int).length cV], .blk b12 34 [.slice oQ (partI (whyP atoms.length rs).1 (needI atoms.length rs (whyP atoms.length rs).1 (aa : Int))).length cQ, .slice oU ([] : List Int).length cU], .blk b11 34 [.slice oS1 (whyP atoms.length rs).1.length cS1, .slice oH1 (whyP atoms.length rs).2.length cH1], .blk b8 26 [.slice oA atoms.length cA, .slice oR rs.length cR], .blk b5 53 [.int .u8 y1, .int .u8 y2]] w) _ _ (by exact ⟨0, rfl, Nat.zero_le _, rfl, hS⟩) ((Sub.cons rfl (Sub.cons rfl (Sub.cons rfl (Sub.cons rfl Sub.nil))))) ?_
    clear hS
    rintro e w n ⟨i, rfl, hi, rfl, hS⟩
    refine cw_seq ?_
    refine cw_seq ?_
    refine cw_region ?_
    refine ol_pure rfl (op_move rfl) ?_
    refine ol_pure rfl (op_fieldAddr fld_34_0 rfl) ?_
    refine ol_load rfl (op_load1 one_32 rfl (fun w hw => (hw.bcell (i := 0) rfl).trans rfl)) hS ?_
    refine ol_pure rfl (op_len sl_32 rfl rfl) ?_
    refine ol_pure rfl (op_lss rfl rfl) ?_
    refine ol_nil ?_
    refine pq_then ?_
    refine cw_cond rfl (fun h74 => ?_) (fun h74 => ?_)
    ·
     skip
     try simp only [decide_eq_true_eq, decide_eq_false_iff_not, Bool.not_eq_true', Bool.not_eq_false', Bool.not_eq_eq_eq_not, Bool.not_true, Bool.not_false] at h74
     have hlt : i < (partI (whyP atoms.length rs).1 (needI atoms.length rs (whyP atoms.length rs).1 (bb : Int))).length := by omega
     obtain ⟨hoB, _, _, ⟨vk, rfl, hvk, hrk⟩, hcells⟩ := hsb.el hlt
     obtain ⟨ov, cv, rfl, _, _⟩ := hvk.elim
     have hmem := hin _ (List.getElem_mem hlt)
     refine cw_skip ?_
     refine pq_then ?_
     refine cw_seq ?_
     refine cw_block ?_
     refine cw_seq ?_
     refine cw_region ?_
     refine ol_pure rfl (op_assign rfl) ?_
     refine ol_nil ?_
     refine pq_then ?_
     refine cw_seq ?_
     refine cw_seq ?_
     refine cw_region ?_
     refine ol_pure rfl (op_assign rfl) ?_
     refine ol_nil ?_
     refine pq_then ?_
     refine cw_block ?_
     refine cw_loop (fun e w n => ∃ (k : Nat) (tt : Bool), e = [(7, .bool true), (12, .pointer (some ⟨b12, 0, none⟩)), (13, .pointer (some ⟨b13, 0, none⟩)), (14, .int .i64 (i : Nat)), (15, .bool tt), (16, .int .i64 (k : Nat))] ∧ k ≤ (partI (whyP atoms.length rs).1 (needI atoms.length rs (whyP atoms.length rs).1 (aa : Int))).length ∧ n = (partI (whyP atoms.length rs).1 (needI atoms.length rs (whyP atoms.length rs).1 (aa : Int))).length - k ∧ tt = ((partI (whyP atoms.length rs).1 (needI atoms.length rs (whyP atoms.length rs).1 (aa : Int))).take k).any (fun x : Step => decide (x.rule = (partI (whyP atoms.length rs).1 (needI atoms.length rs (whyP atoms.length rs).1 (bb : Int)))[i].rule) && decide (x.atoms = (partI (whyP atoms.length rs).1 (needI atoms.length rs (whyP atoms.length rs).1 (bb : Int)))[i].atoms)) ∧ SS G w0 Gs [.blk b13 34 [.slice oB (partI (whyP atoms.length rs).1 (needI atoms.length rs (whyP atoms.length rs).1 (bb : Int))).length cB, .slice oV ([] : List Int).length cV], .blk b12 34 [.slice oQ (partI (whyP atoms.length rs).1 (needI atoms.length rs (whyP atoms.length rs).1 (aa : Int))).length cQ, .slice oU ([] : List Int).length cU], .blk b11 34 [.slice oS1 (whyP atoms.length rs).1.length cS1, .slice oH1 (whyP atoms.length rs).2.length cH1], .blk b8 26 [.slice oA atoms.length cA, .slice oR rs.length cR], .blk b5 53 [.int .u8 y1, .int .u8 y2]] w) _ _ (by exact ⟨0, false, rfl, Nat.zero_le _, rfl, rfl, hS⟩) ((Sub.cons rfl (Sub.cons rfl (Sub.cons rfl (Sub.cons rfl (Sub.cons rfl (Sub.cons rfl Sub.nil))))))) ?_
     clear hS
     rintro e w n ⟨k, tt, rfl, hk, rfl, hx, hS⟩
     refine cw_seq ?_
     refine cw_seq ?_
     refine cw_region ?_
     refine ol_pure rfl (op_move rfl) ?_
     refine ol_pure rfl (op_fieldAddr fld_34_0 rfl) ?_
     refine ol_load rfl (op_load1 one_32 rfl (fun w hw => (hw.bcell (i := 1) rfl).trans rfl)) hS ?_
     refine ol_pure rfl (op_len sl_32 rfl rfl) ?_
     refine ol_pure rfl (op_lss rfl rfl) ?_
     refine ol_nil ?_
     refine pq_then ?_
     refine cw_cond rfl (fun h81 => ?_) (fun h81 => ?_)
     ·
      skip
      try simp only [decide_eq_true_eq, decide_eq_false_iff_not, Bool.not_eq_true', Bool.not_eq_false', Bool.not_eq_eq_eq_not, Bool.not_true, Bool.not_false] at h81
      have hkl : k < (partI (whyP atoms.length rs).1 (needI atoms.length rs (whyP atoms.length rs).1 (aa : Int))).length := by omega
      obtain ⟨hoQ, _, _, ⟨vp, rfl, hvp, hrp⟩, hcellp⟩ := hq1.el hkl
      obtain ⟨op, cp, rfl, _, _⟩ := hvp.elim
      have hats := Pl.any_take_succ (fun x : Step => decide (x.rule = (partI (whyP atoms.length rs).1 (needI atoms.length rs (whyP atoms.length rs).1 (bb : Int)))[i].rule) && decide (x.atoms = (partI (whyP atoms.length rs).1 (needI atoms.length rs (whyP atoms.length rs).1 (bb : Int)))[i].atoms)) (partI (whyP atoms.length rs).1 (needI atoms.length rs (whyP atoms.length rs).1 (aa : Int))) k hkl
      refine cw_skip ?_
      refine pq_then ?_
      refine cw_seq ?_
      refine cw_block ?_
      refine al_start' hS (hS.take 2) (by kernel_rfl) rfl (fun w hS hT => ?_)
      refine al_take (i := 0) rfl (by kernel_rfl) (by kernel_rfl) (by kernel_rfl) rfl (fun _ _ _ h => h) (op_move rfl) rfl ?_
      refine al_take (i := 1) rfl (by kernel_rfl) (by kernel_rfl) (by kernel_rfl) rfl (fun _ _ _ h => h) (op_move rfl) rfl ?_
      refine al_split (fun h85 => ?_) (fun h85 => ?_)
      ·
       skip
       try simp only [decide_eq_true_eq, decide_eq_false_iff_not, Bool.not_eq_true', Bool.not_eq_false', Bool.not_eq_eq_eq_not, Bool.not_true, Bool.not_false] at h85
       refine al_gskip (i := 2) rfl (by kernel_rfl) (by kernel_rfl) (by kernel_rfl) rfl rfl rfl rfl (fun _ _ _ h => h) (fun _ => hT) ?_
       refine al_gskip (i := 3) rfl (by kernel_rfl) (by kernel_rfl) (by kernel_rfl) rfl rfl rfl rfl (fun _ _ _ h => h) (fun _ => hT) ?_
       refine al_gskip (i := 4) rfl (by kernel_rfl) (by kernel_rfl) (by kernel_rfl) rfl rfl rfl rfl (fun _ _ _ h => h) (fun _ => hT) ?_
       refine al_gskip (i := 5) rfl (by kernel_rfl) (by kernel_rfl) (by kernel_rfl) rfl rfl rfl rfl (fun _ _ _ h => h) (fun _ => hT) ?_
       refine al_gskip (i := 6) rfl (by kernel_rfl) (by kernel_rfl) (by kernel_rfl) rfl rfl rfl rfl (fun _ _ _ h => h) (fun _ => hT) ?_
       refine al_gskip (i := 7) rfl (by kernel_rfl) (by kernel_rfl) (by kernel_rfl) rfl rfl rfl rfl (fun _ _ _ h => h) (fun _ => hT) ?_
       refine al_gskip (i := 8) rfl (by kernel_rfl) (by kernel_rfl) (by kernel_rfl) rfl rfl rfl rfl (fun _ _ _ h => h) (fun _ => hT) ?_
       refine al_gskip (i := 9) rfl (by kernel_rfl) (by kernel_rfl) (by kernel_rfl) rfl rfl rfl rfl (fun _ _ _ h => h) (fun _ => hT) ?_
       refine al_gskip (i := 10) rfl (by kernel_rfl) (by kernel_rfl) (by kernel_rfl) rfl rfl rfl rfl (fun _ _ _ h => h) (fun _ => hT) ?_
       refine al_gskip (i := 11) rfl (by kernel_rfl) (by kernel_rfl) (by kernel_rfl) rfl rfl rfl rfl (fun _ _ _ h => h) (fun _ => hT) ?_
       refine al_gskip (i := 12) rfl (by kernel_rfl) (by kernel_rfl) (by kernel_rfl) rfl rfl rfl rfl (fun _ _ _ h => h) (fun _ => hT) ?_
       refine al_gskip (i := 13) rfl (by kernel_rfl) (by kernel_rfl) (by kernel_rfl) rfl rfl rfl rfl (fun _ _ _ h => h) (fun _ => hT) ?_
       refine al_gskip (i := 14) rfl (by kernel_rfl) (by kernel_rfl) (by kernel_rfl) rfl rfl rfl rfl (fun _ _ _ h => h) (fun _ => hT) ?_
       refine al_gskip (i := 15) rfl (by kernel_rfl) (by kernel_rfl) (by kernel_rfl) rfl rfl rfl rfl (fun _ _ _ h => h) (fun _ => hT) ?_
       refine al_gundef (i := 16) rfl (by kernel_rfl) (by kernel_rfl) (by kernel_rfl) rfl rfl rfl (fun _ _ _ h => h) (fun _ => hT) ?_
       refine al_gundef (i := 17) rfl (by kernel_rfl) (by kernel_rfl) (by kernel_rfl) rfl rfl rfl (fun _ _ _ h => h) (fun _ => hT) ?_
       refine al_gundef (i := 18) rfl (by kernel_rfl) (by kernel_rfl) (by kernel_rfl) rfl rfl rfl (fun _ _ _ h => h) (fun _ => hT) ?_
       refine al_gundef (i := 19) rfl (by kernel_rfl) (by kernel_rfl) (by kernel_rfl) rfl rfl rfl (fun _ _ _ h => h) (fun _ => hT) ?_
       refine al_gundef (i := 20) rfl (by kernel_rfl) (by kernel_rfl) (by kernel_rfl) rfl rfl rfl (fun _ _ _ h => h) (fun _ => hT) ?_
       refine al_gundef (i := 21) rfl (by kernel_rfl) (by kernel_rfl) (by kernel_rfl) rfl rfl rfl (fun _ _ _ h => h) (fun _ => hT) ?_
       refine al_gundef (i := 22) rfl (by kernel_rfl) (by kernel_rfl) (by kernel_rfl) rfl rfl rfl (fun _ _ _ h => h) (fun _ => hT) ?_
       refine al_gundef (i := 23) rfl (by kernel_rfl) (by kernel_rfl) (by kernel_rfl) rfl rfl rfl (fun _ _ _ h => h) (fun _ => hT) ?_
       refine al_gundef (i := 24) rfl (by kernel_rfl) (by kernel_rfl) (by kernel_rfl) rfl rfl rfl (fun _ _ _ h => h) (fun _ => hT) ?_
       refine al_gundef (i := 25) rfl (by kernel_rfl) (by kernel_rfl) (by kernel_rfl) rfl rfl rfl (fun _ _ _ h => h) (fun _ => hT) ?_
       refine al_gundef (i := 26) rfl (by kernel_rfl) (by kernel_rfl) (by kernel_rfl) rfl rfl rfl (fun _ _ _ h => h) (fun _ => hT) ?_
       refine al_gundef (i := 27) rfl (by kernel_rfl) (by kernel_rfl) (by kernel_rfl) rfl rfl rfl (fun _ _ _ h => h) (fun _ => hT) ?_
       refine al_gundef (i := 28) rfl (by kernel_rfl) (by kernel_rfl) (by kernel_rfl) rfl rfl rfl (fun _ _ _ h => h) (fun _ => hT) ?_
       refine al_gskip (i := 29) rfl (by kernel_rfl) (by kernel_rfl) (by kernel_rfl) rfl rfl rfl rfl (fun _ _ _ h => h) (fun _ => hT) ?_
       refine al_take (i := 30) rfl (by kernel_rfl) (by kernel_rfl) (by kernel_rfl) rfl (fun _ _ _ h => h) (op_pick_t rfl rfl) rfl ?_
       refine al_take (i := 31) rfl (by kernel_rfl) (by kernel_rfl) (by kernel_rfl) rfl (fun _ _ _ h => h) (op_assign rfl) rfl ?_
       refine al_done (by kernel_rfl) ?_
       refine pq_in_normal ?_
       refine pq_then ?_
       refine cw_region ?_
       refine ol_pure rfl (op_move rfl) ?_
       refine ol_pure rfl (op_add rfl rfl (by omega) (by omega)) ?_
       refine ol_pure rfl (op_assign rfl) ?_
       refine ol_nil ?_
       refine pq_loop _ _ (by exact ⟨k + 1, true, rfl, by omega, rfl, by rw [hats, ← hx]; rw [h85]; rfl, hS⟩) ((Sub.cons rfl (Sub.cons rfl (Sub.cons rfl (Sub.cons rfl (Sub.cons rfl (Sub.cons rfl Sub.nil))))))) (by omega)
      ·
       skip
       try simp only [decide_eq_true_eq, decide_eq_false_iff_not, Bool.not_eq_true', Bool.not_eq_false', Bool.not_eq_eq_eq_not, Bool.not_true, Bool.not_false] at h85
       refine al_gtake (i := 2) rfl (by kernel_rfl) (by kernel_rfl) (by kernel_rfl) rfl rfl rfl (fun _ _ _ h => h) (op_fieldAddr fld_34_0 rfl) rfl ?_
       refine al_gload (i := 3) rfl (by kernel_rfl) (by kernel_rfl) (by kernel_rfl) rfl rfl rfl (fun _ _ _ h => h) (by exact op_load1 one_32 rfl (fun w hw => (hw.bcell (i := 1) rfl).trans rfl)) rfl hT ?_
       refine al_gtake (i := 4) rfl (by kernel_rfl) (by kernel_rfl) (by kernel_rfl) rfl rfl rfl (fun _ _ _ h => h) (op_move rfl) rfl ?_
       refine al_gtake (i := 5) rfl (by kernel_rfl) (by kernel_rfl) (by kernel_rfl) rfl rfl rfl (fun _ _ _ h => h) (op_indexN sl_32 rfl rfl (by omega) hoQ) rfl ?_
       refine al_gtake (i := 6) rfl (by kernel_rfl) (by kernel_rfl) (by kernel_rfl) rfl rfl rfl (fun _ _ _ h => h) (op_fieldAddr fld_37_0 rfl) rfl ?_
       refine al_gload (i := 7) rfl (by kernel_rfl) (by kernel_rfl) (by kernel_rfl) rfl rfl rfl (fun _ _ _ h => h) (by exact op_load1 one_3 rfl (fun w hw => hw.gcell (hcellp 0 _ rfl))) rfl hT ?_
       refine al_gtake (i := 8) rfl (by kernel_rfl) (by kernel_rfl) (by kernel_rfl) rfl rfl rfl (fun _ _ _ h => h) (op_fieldAddr fld_34_0 rfl) rfl ?_
       refine al_gload (i := 9) rfl (by kernel_rfl) (by kernel_rfl) (by kernel_rfl) rfl rfl rfl (fun _ _ _ h => h) (by exact op_load1 one_32 rfl (fun w hw => (hw.bcell (i := 0) rfl).trans rfl)) rfl hT ?_
       refine al_gtake (i := 10) rfl (by kernel_rfl) (by kernel_rfl) (by kernel_rfl) rfl rfl rfl (fun _ _ _ h => h) (op_move rfl) rfl ?_
       refine al_gtake (i := 11) rfl (by kernel_rfl) (by kernel_rfl) (by kernel_rfl) rfl rfl rfl (fun _ _ _ h => h) (op_indexN sl_32 rfl rfl (by omega) hoB) rfl ?_
       refine al_gtake (i := 12) rfl (by kernel_rfl) (by kernel_rfl) (by kernel_rfl) rfl rfl rfl (fun _ _ _ h => h) (op_fieldAddr fld_37_0 rfl) rfl ?_
       refine al_gload (i := 13) rfl (by kernel_rfl) (by kernel_rfl) (by kernel_rfl) rfl rfl rfl (fun _ _ _ h => h) (by exact op_load1 one_3 rfl (fun w hw => hw.gcell (hcells 0 _ rfl))) rfl hT ?_
       refine al_gtake (i := 14) rfl (by kernel_rfl) (by kernel_rfl) (by kernel_rfl) rfl rfl rfl (fun _ _ _ h => h) (op_eql rfl rfl) rfl ?_
       refine al_gtake (i := 15) rfl (by kernel_rfl) (by kernel_rfl) (by kernel_rfl) rfl rfl rfl (fun _ _ _ h => h) (op_move rfl) rfl ?_
       refine al_split (fun h99 => ?_) (fun h99 => ?_)
       ·
        skip
        try simp only [decide_eq_true_eq, decide_eq_false_iff_not, Bool.not_eq_true', Bool.not_eq_false', Bool.not_eq_eq_eq_not, Bool.not_true, Bool.not_false] at h99
        refine al_gtake (i := 16) rfl (by kernel_rfl) (by kernel_rfl) (by kernel_rfl) rfl rfl rfl (fun _ _ _ h => h) (op_fieldAddr fld_34_0 rfl) rfl ?_
        refine al_gload (i := 17) rfl (by kernel_rfl) (by kernel_rfl) (by kernel_rfl) rfl rfl rfl (fun _ _ _ h => h) (by exact op_load1 one_32 rfl (fun w hw => (hw.bcell (i := 1) rfl).trans rfl)) rfl hT ?_
        refine al_gtake (i := 18) rfl (by kernel_rfl) (by kernel_rfl) (by kernel_rfl) rfl rfl rfl (fun _ _ _ h => h) (op_move rfl) rfl ?_
        refine al_gtake (i := 19) rfl (by kernel_rfl) (by kernel_rfl) (by kernel_rfl) rfl rfl rfl (fun _ _ _ h => h) (op_indexN sl_32 rfl rfl (by omega) hoQ) rfl ?_
        refine al_gtake (i := 20) rfl (by kernel_rfl) (by kernel_rfl) (by kernel_rfl) rfl rfl rfl (fun _ _ _ h => h) (op_fieldAddr fld_37_1 rfl) rfl ?_
        refine al_gload (i := 21) rfl (by kernel_rfl) (by kernel_rfl) (by kernel_rfl) rfl rfl rfl (fun _ _ _ h => h) (by exact op_load1 one_28 rfl (fun w hw => hw.gcell (hcellp 1 _ rfl))) rfl hT ?_
        refine al_gtake (i := 22) rfl (by kernel_rfl) (by kernel_rfl) (by kernel_rfl) rfl rfl rfl (fun _ _ _ h => h) (op_fieldAddr fld_34_0 rfl) rfl ?_
        refine al_gload (i := 23) rfl (by kernel_rfl) (by kernel_rfl) (by kernel_rfl) rfl rfl rfl (fun _ _ _ h => h) (by exact op_load1 one_32 rfl (fun w hw => (hw.bcell (i := 0) rfl).trans rfl)) rfl hT ?_
        refine al_gtake (i := 24) rfl (by kernel_rfl) (by kernel_rfl) (by kernel_rfl) rfl rfl rfl (fun _ _ _ h => h) (op_move rfl) rfl ?_
        refine al_gtake (i := 25) rfl (by kernel_rfl) (by kernel_rfl) (by kernel_rfl) rfl rfl rfl (fun _ _ _ h => h) (op_indexN sl_32 rfl rfl (by omega) hoB) rfl ?_
        refine al_gtake (i := 26) rfl (by kernel_rfl) (by kernel_rfl) (by kernel_rfl) rfl rfl rfl (fun _ _ _ h => h) (op_fieldAddr fld_37_1 rfl) rfl ?_
        refine al_gload (i := 27) rfl (by kernel_rfl) (by kernel_rfl) (by kernel_rfl) rfl rfl rfl (fun _ _ _ h => h) (by exact op_load1 one_28 rfl (fun w hw => hw.gcell (hcells 1 _ rfl))) rfl hT ?_
        refine al_gstep (i := 28) rfl (by kernel_rfl) rfl rfl rfl (op_call_sc hS cf_18 rfl (R21_Ints_c _ _ hS.hold _ _ _ _ hvp hvk)) ?_
        clear hS
        rintro _ w ⟨rfl, hS⟩
        have hT := hT.back hS (by first | exact Le.refl _ | assumption) (fun x hx => by try simp only [List.take_succ_cons, List.take_zero, List.mem_cons, List.not_mem_nil, or_false] at hx; (rcases hx with rfl | rfl) <;> simp)
        refine ⟨fun _ _ => hT, ?_⟩
        refine al_gtake (i := 29) rfl (by kernel_rfl) (by kernel_rfl) (by kernel_rfl) rfl rfl rfl (fun _ _ _ h => h) (op_pick_t rfl rfl) rfl ?_
        refine al_take (i := 30) rfl (by kernel_rfl) (by kernel_rfl) (by kernel_rfl) rfl (fun _ _ _ h => h) (op_pick_f rfl rfl) rfl ?_
        refine al_take (i := 31) rfl (by kernel_rfl) (by kernel_rfl) (by kernel_rfl) rfl (fun _ _ _ h => h) (op_assign rfl) rfl ?_
        refine al_done (by kernel_rfl) ?_
        refine pq_in_normal ?_
        refine pq_then ?_
        refine cw_region ?_
        refine ol_pure rfl (op_move rfl) ?_
        refine ol_pure rfl (op_add rfl rfl (by omega) (by omega)) ?_
        refine ol_pure rfl (op_assign rfl) ?_
        refine ol_nil ?_
        refine pq_loop _ _ (by exact ⟨k + 1, decide ((partI (whyP atoms.length rs).1 (needI atoms.length rs (whyP atoms.length rs).1 (aa : Int)))[k].atoms = (partI (whyP atoms.length rs).1 (needI atoms.length rs (whyP atoms.length rs).1 (bb : Int)))[i].atoms), rfl, by omega, rfl, by rw [hats, ← hx]; rw [h85, decide_eq_true h99]; rfl, hS⟩) ((Sub.cons rfl (Sub.cons rfl (Sub.cons rfl (Sub.cons rfl (Sub.cons rfl (Sub.cons rfl Sub.nil))))))) (by omega)
       ·
        skip
        try simp only [decide_eq_true_eq, decide_eq_false_iff_not, Bool.not_eq_true', Bool.not_eq_false', Bool.not_eq_eq_eq_not, Bool.not_true, Bool.not_false] at h99
        refine al_gskip (i := 16) rfl (by kernel_rfl) (by kernel_rfl) (by kernel_rfl) rfl rfl rfl rfl (fun _ _ _ h => h) (fun _ => hT) ?_
        refine al_gskip (i := 17) rfl (by kernel_rfl) (by kernel_rfl) (by kernel_rfl) rfl rfl rfl rfl (fun _ _ _ h => h) (fun _ => hT) ?_
        refine al_gskip (i := 18) rfl (by kernel_rfl) (by kernel_rfl) (by kernel_rfl) rfl rfl rfl rfl (fun _ _ _ h => h) (fun _ => hT) ?_
        refine al_gskip (i := 19) rfl (by kernel_rfl) (by kernel_rfl) (by kernel_rfl) rfl rfl rfl rfl (fun _ _ _ h => h) (fun _ => hT) ?_
        refine al_gskip (i := 20) rfl (by kernel_rfl) (by kernel_rfl) (by kernel_rfl) rfl rfl rfl rfl (fun _ _ _ h => h) (fun _ => hT) ?_
        refine al_gskip (i := 21) rfl (by kernel_rfl) (by kernel_rfl) (by kernel_rfl) rfl rfl rfl rfl (fun _ _ _ h => h) (fun _ => hT) ?_
        refine al_gskip (i := 22) rfl (by kernel_rfl) (by kernel_rfl) (by kernel_rfl) rfl rfl rfl rfl (fun _ _ _ h => h) (fun _ => hT) ?_
        refine al_gskip (i := 23) rfl (by kernel_rfl) (by kernel_rfl) (by kernel_rfl) rfl rfl rfl rfl (fun _ _ _ h => h) (fun _ => hT) ?_
        refine al_gskip (i := 24) rfl (by kernel_rfl) (by kernel_rfl) (by kernel_rfl) rfl rfl rfl rfl (fun _ _ _ h => h) (fun _ => hT) ?_
        refine al_gskip (i := 25) rfl (by kernel_rfl) (by kernel_rfl) (by kernel_rfl) rfl rfl rfl rfl (fun _ _ _ h => h) (fun _ => hT) ?_
        refine al_gskip (i := 26) rfl (by kernel_rfl) (by kernel_rfl) (by kernel_rfl) rfl rfl rfl rfl (fun _ _ _ h => h) (fun _ => hT) ?_
        refine al_gskip (i := 27) rfl (by kernel_rfl) (by kernel_rfl) (by kernel_rfl) rfl rfl rfl rfl (fun _ _ _ h => h) (fun _ => hT) ?_
        refine al_gskip (i := 28) rfl (by kernel_rfl) (by kernel_rfl) (by kernel_rfl) rfl rfl rfl rfl (fun _ _ _ h => h) (fun _ => hT) ?_
        refine al_gtake (i := 29) rfl (by kernel_rfl) (by kernel_rfl) (by kernel_rfl) rfl rfl rfl (fun _ _ _ h => h) (op_pick_f rfl rfl) rfl ?_
        refine al_take (i := 30) rfl (by kernel_rfl) (by kernel_rfl) (by kernel_rfl) rfl (fun _ _ _ h => h) (op_pick_f rfl rfl) rfl ?_
        refine al_take (i := 31) rfl (by kernel_rfl) (by kernel_rfl) (by kernel_rfl) rfl (fun _ _ _ h => h) (op_assign rfl) rfl ?_
        refine al_done (by kernel_rfl) ?_
        refine pq_in_normal ?_
        refine pq_then ?_
        refine cw_region ?_
        refine ol_pure rfl (op_move rfl) ?_
        refine ol_pure rfl (op_add rfl rfl (by omega) (by omega)) ?_
        refine ol_pure rfl (op_assign rfl) ?_
        refine ol_nil ?_
        refine pq_loop _ _ (by exact ⟨k + 1, false, rfl, by omega, rfl, by rw [hats, ← hx]; rw [h85, decide_eq_false h99]; rfl, hS⟩) ((Sub.cons rfl (Sub.cons rfl (Sub.cons rfl (Sub.cons rfl (Sub.cons rfl (Sub.cons rfl Sub.nil))))))) (by omega)
     ·
      skip
      try simp only [decide_eq_true_eq, decide_eq_false_iff_not, Bool.not_eq_true', Bool.not_eq_false', Bool.not_eq_eq_eq_not, Bool.not_true, Bool.not_false] at h81
      refine cw_exit ?_
      refine pq_exit ?_
      refine pq_exit ?_
      refine pq_in_exit ?_
      refine pq_then ?_
      refine cw_seq ?_
      refine cw_region ?_
      refine ol_pure rfl (op_move rfl) ?_
      refine ol_pure rfl (op_not rfl) ?_
      refine ol_nil ?_
      refine pq_then ?_
      refine cw_cond rfl (fun h116 => ?_) (fun h116 => ?_)
      ·
       skip
       try simp only [decide_eq_true_eq, decide_eq_false_iff_not, Bool.not_eq_true', Bool.not_eq_false', Bool.not_eq_eq_eq_not, Bool.not_true, Bool.not_false] at h116
       refine cw_seq ?_
       refine cw_region ?_
       refine ol_pure rfl (op_assign rfl) ?_
       refine ol_nil ?_
       refine pq_then ?_
       refine cw_ret ?_
       refine pq_in_ret ?_
       refine pq_ret ?_
       refine pq_ret ?_
       refine pq_in_ret ?_
       refine pq_ret ?_
       refine ret1 rfl rfl ?_
       exfalso
       rw [List.take_of_length_le (show (partI (whyP atoms.length rs).1 (needI atoms.length rs (whyP atoms.length rs).1 (aa : Int))).length ≤ k by omega)] at hx
       have h9 : (partI (whyP atoms.length rs).1 (needI atoms.length rs (whyP atoms.length rs).1 (aa : Int))).any (fun x : Step => decide (x.rule = (partI (whyP atoms.length rs).1 (needI atoms.length rs (whyP atoms.length rs).1 (bb : Int)))[i].rule) && decide (x.atoms = (partI (whyP atoms.length rs).1 (needI atoms.length rs (whyP atoms.length rs).1 (bb : Int)))[i].atoms)) = true := List.any_eq_true.2 ⟨_, hmem, by simp⟩
       rw [← hx] at h9
       simp_all
      ·
       skip
       try simp only [decide_eq_true_eq, decide_eq_false_iff_not, Bool.not_eq_true', Bool.not_eq_false', Bool.not_eq_eq_eq_not, Bool.not_true, Bool.not_false] at h116
       refine cw_skip ?_
       refine pq_in_normal ?_
       refine pq_then ?_
       refine cw_region ?_
       refine ol_pure rfl (op_move rfl) ?_
       refine ol_pure rfl (op_add rfl rfl (by omega) (by omega)) ?_
       refine ol_pure rfl (op_assign rfl) ?_
       refine ol_nil ?_
       refine pq_loop _ _ (by exact ⟨i + 1, rfl, by omega, rfl, hS⟩) ((Sub.cons rfl (Sub.cons rfl (Sub.cons rfl (Sub.cons rfl Sub.nil))))) (by omega)
    ·
     skip
     try simp only [decide_eq_true_eq, decide_eq_false_iff_not, Bool.not_eq_true', Bool.not_eq_false', Bool.not_eq_eq_eq_not, Bool.not_true, Bool.not_false] at h74
     refine cw_exit ?_
     refine pq_exit ?_
     refine pq_exit ?_
     refine pq_in_exit ?_
     refine pq_then ?_
     refine cw_seq ?_
     refine cw_region ?_
     refine ol_pure rfl (op_move rfl) ?_
     refine ol_pure rfl (op_assign rfl) ?_
     refine ol_nil ?_
     refine pq_then ?_
     refine cw_ret ?_
     refine ret1 rfl rfl ?_
     exact hS.sc_b rfl
end Go.Proofs.Ytmkgechdfimfnaa.K
