/-
  JustEnds: its walk.
  No condition but the premises that each theorem names.
-/
import Derived.Test.YtmkgechdfimfnaaLJhead
import Derived.Test.YtmkgechdfimfnaaPlz
import Derived.Test.YtmkgechdfimfnaaR21c
import Derived.Test.YtmkgechdfimfnaaR21e
namespace Go.Proofs.Ytmkgechdfimfnaa.K
open Go Go.RowKit
set_option linter.unusedVariables false
set_option linter.unusedSimpArgs false

open Pl
theorem facts_take {rs : List Rule} {k : Nat} (hk : k < rs.length) : factsOf (rs.take (k + 1)) = factsOf (rs.take k) ++ [⟨rs[k].head, [], []⟩] := by
  unfold factsOf
  rw [List.take_succ_eq_append_getElem hk, List.map_append]
  rfl

set_option maxRecDepth 100000 in
set_option maxHeartbeats 16000000 in

theorem L21_JustEnds_c (G : GH) (w0 : World) (hG : Holds G w0) (v : Value) (l : List Rule) (h1 : RSl 3 ERule G v l) (z : Int) (hz : 0 ≤ z ∧ z ≤ 255) (y : Int) (hy : 0 ≤ y ∧ y ≤ 255) :
   Calls Try.prog 3 #[v, .int .u8 z, .int .u8 y] w0 (Sc w0 (.bool true)) := by
 refine enter Try.func3 rfl (N := 127) rfl (Nat.le_of_ble_eq_true rfl) ?_
 have hS := SS.init hG
 refine cw_seq ?_
 refine cw_region ?_
 refine ol_pure rfl (op_assign rfl) ?_
 refine ol_nil ?_
 refine pq_then ?_
 refine cw_seq ?_
 refine cw_region ?_
 refine ol_step rfl (op_call_sc hS cf_10 rfl (L21_head_c G _ hS.hold)) ?_
 clear hS
 rintro _ w ⟨rfl, hS⟩
 refine ol_pure rfl (op_assign rfl) ?_
 refine ol_nil ?_
 refine pq_then ?_
 refine cw_seq ?_
 refine cw_region ?_
 refine ol_pure rfl (op_move rfl) ?_
 refine ol_pure rfl (op_move rfl) ?_
 refine ol_step rfl (op_call_rt hS cf_11 rfl (fun _ => .inr rfl) (madeMono ETriv.mono) (R18_Made_c _ _ hS.hold v l h1 z hz)) ?_
 clear hS
 rintro v19 w ⟨Gm, hl19, hR19, hS⟩
 obtain ⟨va, vr, rfl, hA, hR⟩ := hR19
 have hmr := madeN_range z
 have hok := madeR_ok l hmr.1 hmr.2
 obtain ⟨atoms, hat⟩ : ∃ atoms : List Unit, atoms = List.replicate (madeN z) () := ⟨_, rfl⟩
 have hal : atoms.length = madeN z := by rw [hat]; simp
 rw [← hat] at hA
 have hP : PrOk atoms.length (madeR l (madeN z)) := by rw [hal]; exact hok.1
 have hNg := hok.2
 rw [← hal] at hmr
 clear hok hal hat
 generalize madeR l (madeN z) = rs at hR hP hNg
 obtain ⟨oA, cA, rfl, _, _⟩ := hA.elim
 obtain ⟨oR, cR, rfl, _, _⟩ := hR.elim
 have hwr := why_runs hP
 have hPn := hP.n_le
 have hPm := hP.m_le
 have hsl := hwr.1.len
 have hlo := hwr.1.lean hP
 have hsm : ∀ s ∈ (whyP atoms.length rs).1, s.atoms.length ≤ 1000 := fun s hs => by have := hwr.1.small s hs; omega
 have hng : ∀ r ∈ rs, r.neg.length ≤ 1000 := fun r hr => by have := (hNg r hr).2; omega
 have hn0 : (0 : Int) < atoms.length := by omega
 obtain ⟨aa, haa⟩ : ∃ aa : Nat, y % (atoms.length : Nat) = (aa : Int) := Int.eq_ofNat_of_zero_le (Int.emod_nonneg _ (by omega))
 have hal : aa < atoms.length := by have := Int.emod_lt_of_pos y hn0; omega
 have hfl : (factsOf rs).length = rs.length := by simp [factsOf]
 have hFl := rulesS_len (factsOf rs)
 have hF := facts_ok hP
 have hPF := hF.prok hPn (by omega)
 have hFn := hF.le
 obtain ⟨⟨rest, hre, hrl⟩, hiff⟩ := facts_why hF hPF
 have hlen : (whyP atoms.length (rulesS (factsOf rs))).1.length = (rulesS (factsOf rs)).length + rest.length := by rw [hre, List.length_append, factSteps_len]
 have hwf := (why_runs hPF).1
 have hwl := hwf.len
 have hlean := hwf.lean hPF
 refine ol_step rfl (op_alloc hS el_26 rfl) ?_
 clear hS
 rintro _ w ⟨b8, rfl, hS⟩
 refine ol_step0  (op_storeN (j := 0) hS sz_26 rfl rfl rfl rfl rfl (by simp [Value.oneCell'])) ?_
 clear hS
 rintro _ w hS; (try simp only [List.nil_append, List.cons_append, List.set] at hS)
 refine ol_nil ?_
 refine pq_then ?_
 refine cw_seq ?_
 refine al_start' hS (hS.take 1) (by kernel_rfl) rfl (fun w hS hT => ?_)
 refine al_take (i := 1) rfl (by kernel_rfl) (by kernel_rfl) (by kernel_rfl) rfl (fun _ _ _ h => h) (op_move rfl) rfl ?_
 refine al_take (i := 2) rfl (by kernel_rfl) (by kernel_rfl) (by kernel_rfl) rfl (fun _ _ _ h => h) (op_conv ⟨_, Try.underlying5⟩ Try.underlying3 rfl (wrap_u8 hy)) rfl ?_
 refine al_take (i := 3) rfl (by kernel_rfl) (by kernel_rfl) (by kernel_rfl) rfl (fun _ _ _ h => h) (op_fieldAddr fld_26_0 rfl) rfl ?_
 refine al_load (i := 4) rfl (by kernel_rfl) (by kernel_rfl) (by kernel_rfl) rfl (fun _ _ _ h => h) (by exact op_load1 one_24 rfl (fun w hw => (hw.bcell (i := 0) rfl).trans rfl)) rfl hT ?_
 refine al_take (i := 5) rfl (by kernel_rfl) (by kernel_rfl) (by kernel_rfl) rfl (fun _ _ _ h => h) (op_len sl_24 rfl rfl) rfl ?_
 refine al_take (i := 6) rfl (by kernel_rfl) (by kernel_rfl) (by kernel_rfl) rfl (fun _ _ _ h => h) (op_val (op_rem rfl rfl (by omega) (by omega)) (congrArg (Value.int .i64) haa)) rfl ?_
 refine al_step (i := 0) rfl (by kernel_rfl) rfl (op_buildSlice (el := 30) (is := []) (xs := []) (sz := 3) (cs := []) hS rfl rfl (fun w => by kernel_rfl) rfl (by decide)) ?_
 clear hS
 rintro _ w ⟨s20, rfl, hS⟩
 have hT := hT.back hS (by first | exact Le.refl _ | assumption) (fun x hx => by try simp only [List.take_succ_cons, List.take_zero, List.mem_cons, List.not_mem_nil, or_false] at hx; (rcases hx with rfl) <;> simp)
 refine ⟨fun _ _ => hT, ?_⟩
 refine al_take (i := 7) rfl (by kernel_rfl) (by kernel_rfl) (by kernel_rfl) rfl (fun _ _ _ h => h) (op_assign rfl) rfl ?_
 refine al_take (i := 8) rfl (by kernel_rfl) (by kernel_rfl) (by kernel_rfl) rfl (fun _ _ _ h => h) (op_assign rfl) rfl ?_
 refine al_done (by kernel_rfl) ?_
 refine pq_then ?_
 refine cw_seq ?_
 refine cw_seq ?_
 refine cw_region ?_
 refine ol_pure rfl (op_assign rfl) ?_
 refine ol_nil ?_
 refine pq_then ?_
 refine cw_block ?_
 refine cw_loop (fun e w n => ∃ (k : Nat) (o9 : Option Addr) (c9 : Nat) (us : List Value), e = [(7, .bool true), (8, .pointer (some ⟨b8, 0, none⟩)), (9, .slice o9 k c9), (10, .int .i64 (aa : Nat)), (11, .int .i64 (k : Nat))] ∧ k ≤ rs.length ∧ n = rs.length - k ∧ Rows 3 ERule Gm us (factsOf (rs.take k)) ∧ SS G w0 Gm [.row o9 k c9 30 3 us, .blk b8 26 [.slice oA atoms.length cA, .slice oR rs.length cR]] w) _ _ (by exact ⟨0, s20, _, [], rfl, Nat.zero_le _, rfl, Rows.nil _, hS⟩) ((Sub.cons rfl (Sub.cons rfl (Sub.cons rfl (Sub.cons rfl (Sub.cons rfl Sub.nil)))))) ?_
 clear hS
 rintro e w n ⟨k, o9, c9, us, rfl, hk0, rfl, hus, hS⟩
 refine cw_seq ?_
 refine cw_seq ?_
 refine cw_region ?_
 refine ol_pure rfl (op_move rfl) ?_
 refine ol_pure rfl (op_fieldAddr fld_26_1 rfl) ?_
 refine ol_load rfl (op_load1 one_22 rfl (fun w hw => (hw.bcell (i := 1) rfl).trans rfl)) hS ?_
 refine ol_pure rfl (op_len sl_22 rfl rfl) ?_
 refine ol_pure rfl (op_lss rfl rfl) ?_
 refine ol_nil ?_
 refine pq_then ?_
 refine cw_cond rfl (fun h31 => ?_) (fun h31 => ?_)
 ·
  skip
  try simp only [decide_eq_true_eq, decide_eq_false_iff_not, Bool.not_eq_true', Bool.not_eq_false', Bool.not_eq_eq_eq_not, Bool.not_true, Bool.not_false] at h31
  have hk : k < rs.length := by omega
  obtain ⟨hoR, _, _, ⟨p, q, rfl, hp, hq, hhd⟩, hcellR⟩ := hR.el hk
  have hft := facts_take hk
  refine cw_skip ?_
  refine pq_then ?_
  refine cw_seq ?_
  refine cw_block ?_
  refine cw_region ?_
  refine ol_pure rfl (op_move rfl) ?_
  refine ol_pure rfl (op_fieldAddr fld_26_1 rfl) ?_
  refine ol_load rfl (op_load1 one_22 rfl (fun w hw => (hw.bcell (i := 1) rfl).trans rfl)) hS ?_
  refine ol_pure rfl (op_move rfl) ?_
  refine ol_pure rfl (op_indexN sl_22 rfl rfl (by omega) hoR) ?_
  refine ol_pure rfl (op_fieldAddr fld_30_0 rfl) ?_
  refine ol_load rfl (op_load1 one_3 rfl (fun w hw => hw.gcell (hcellR 0 _ rfl))) hS ?_
  refine ol_pure rfl (op_build (is := [0]) (xs := [.tmp 40]) (v := .agg #[.int .i64 rs[k].head, .slice none 0 0, .slice none 0 0]) rfl rfl (fun w => by kernel_rfl)) ?_
  refine ol_step rfl (op_buildSlice (el := 30) (is := [0]) (xs := [.tmp 41]) (sz := 3) (cs := [.int .i64 rs[k].head, .slice none 0 0, .slice none 0 0]) hS rfl rfl (fun w => by kernel_rfl) rfl (by decide)) ?_
  clear hS
  rintro _ w ⟨s42, rfl, hS⟩
  refine ol_step rfl (op_append (j := 1) hS sl_22 el_30 rfl rfl rfl rfl rfl rfl (by decide) (hS.news (j := 0) rfl) (by simp [Value.oneCell']) (by omega) (by unfold maxLen; omega)) ?_
  clear hS
  rintro _ w ⟨o9n, c_o9n, rfl, hS⟩; (try simp only [List.nil_append, List.cons_append, List.set] at hS); replace hS := SS.drop [] hS; (try simp only [List.nil_append, List.cons_append] at hS)
  refine ol_pure rfl (op_assign rfl) ?_
  refine ol_nil ?_
  refine pq_in_normal ?_
  refine pq_then ?_
  refine cw_region ?_
  refine ol_pure rfl (op_move rfl) ?_
  refine ol_pure rfl (op_add rfl rfl (by omega) (by omega)) ?_
  refine ol_pure rfl (op_assign rfl) ?_
  refine ol_nil ?_
  refine pq_loop _ _ (by exact ⟨k + 1, o9n, c_o9n, _, rfl, by omega, rfl, by rw [hft]; exact hus.snoc (x := (⟨rs[k].head, [], []⟩ : Rule)) rfl (erule (x := (⟨rs[k].head, [], []⟩ : Rule)) (RSl.nil _) (RSl.nil _) hhd), hS⟩) ((Sub.cons rfl (Sub.cons rfl (Sub.cons rfl (Sub.cons rfl (Sub.cons rfl Sub.nil)))))) (by omega)
 ·
  skip
  try simp only [decide_eq_true_eq, decide_eq_false_iff_not, Bool.not_eq_true', Bool.not_eq_false', Bool.not_eq_eq_eq_not, Bool.not_true, Bool.not_false] at h31
  have hkr : k = rs.length := by omega
  subst hkr
  rw [List.take_length] at hus
  obtain ⟨Gv, hlv, hSv, hRv⟩ := SS.give' (factsOf rs) [] ERule.mono hS (by decide) hus hfl.symm
  clear hS
  have hS := hSv
  clear hSv
  simp only [List.nil_append] at hS
  replace hA := hA.mono ETriv.mono hlv
  replace hR := hR.mono ERule.mono hlv
  refine cw_exit ?_
  refine pq_exit ?_
  refine pq_exit ?_
  refine pq_in_exit ?_
  refine pq_then ?_
  refine cw_seq ?_
  refine al_start' hS (hS.take 1) (by kernel_rfl) rfl (fun w hS hT => ?_)
  refine al_take (i := 0) rfl (by kernel_rfl) (by kernel_rfl) (by kernel_rfl) rfl (fun _ _ _ h => h) (op_fieldAddr fld_26_0 rfl) rfl ?_
  refine al_load (i := 1) rfl (by kernel_rfl) (by kernel_rfl) (by kernel_rfl) rfl (fun _ _ _ h => h) (by exact op_load1 one_24 rfl (fun w hw => (hw.bcell (i := 0) rfl).trans rfl)) rfl hT ?_
  refine al_take (i := 2) rfl (by kernel_rfl) (by kernel_rfl) (by kernel_rfl) rfl (fun _ _ _ h => h) (op_move rfl) rfl ?_
  refine al_meet (fuel2 := 1) (ds2 := [5, 4, 3, 2, 1, 0]) (fun e w => ∃ oF cF b12 Gd, e = [(7, .bool true), (8, .pointer (some ⟨b8, 0, none⟩)), (10, .int .i64 (aa : Nat)), (12, .pointer (some ⟨b12, 0, none⟩)), (48, .agg #[.slice oA atoms.length cA, .slice oF (rulesS (factsOf rs)).length cF])] ∧ Le Gv Gd ∧ RSl 3 ERule Gd (.slice oF (rulesS (factsOf rs)).length cF) (rulesS (factsOf rs)) ∧ SS G w0 Gd [.blk b12 26 [.slice none 0 0, .slice none 0 0], .blk b8 26 [.slice oA atoms.length cA, .slice oR rs.length cR]] w) (fun K8 => ?_) ?_
  ·
   skip
   refine al_two (i := 3) (j := 5) (by kernel_rfl) (fun a ha => ?_) (fun a ha => ?_)
   ·
    skip
    refine wpOp_of_opk (i := 3) rfl ha (op_call_rt hS cf_12 rfl (fun _ => .inr rfl) (fun _ _ _ hl h => h.mono ERule.mono hl) (R18_Rules_c _ _ hS.hold _ _ hRv (by omega))) ?_
    clear hS
    rintro v47 w ⟨Gf, hl47, hR47, hS⟩
    obtain ⟨oF, cF, rfl, _, _⟩ := (show RSl 3 ERule Gf v47 (rulesS (factsOf rs)) from hR47).elim
    have hFr : RSl 3 ERule Gf (.slice oF (rulesS (factsOf rs)).length cF) (rulesS (factsOf rs)) := hR47
    replace hA := hA.mono ETriv.mono hl47
    replace hR := hR.mono ERule.mono hl47
    have hT := hT.back hS (by first | exact Le.refl _ | assumption) (fun x hx => by try simp only [List.take_succ_cons, List.take_zero, List.mem_cons, List.not_mem_nil, or_false] at hx; (rcases hx with rfl) <;> simp)
    refine ⟨fun _ _ => hT, ?_⟩
    refine al_at ?_ (ha.put (blt_lt rfl) _)
    refine al_take (i := 4) rfl (by kernel_rfl) (by kernel_rfl) (by kernel_rfl) rfl (fun _ _ _ h => h) (op_build (is := [0, 1]) (xs := [.tmp 45, .tmp 47]) (v := .agg #[.slice oA atoms.length cA, .slice oF (rulesS (factsOf rs)).length cF]) rfl rfl (fun w => by kernel_rfl)) rfl ?_
    refine al_step (i := 5) rfl (by kernel_rfl) rfl (op_alloc hS el_26 rfl) ?_
    clear hS
    rintro _ w ⟨b12, rfl, hS⟩
    have hT := hT.back hS (by first | exact Le.refl _ | assumption) (fun x hx => by try simp only [List.take_succ_cons, List.take_zero, List.mem_cons, List.not_mem_nil, or_false] at hx; (rcases hx with rfl) <;> simp)
    refine ⟨fun _ _ => hT, ?_⟩
    exact K8 _ _ _ _ (by kernel_rfl) (by exact ⟨oF, cF, b12, Gf, rfl, hl47, hFr, hS⟩) ((Sub.cons rfl (Sub.cons rfl (Sub.cons rfl (Sub.cons rfl (Sub.cons rfl Sub.nil))))))
   ·
    skip
    refine wpOp_of_opk (i := 5) rfl ha (op_alloc hS el_26 rfl) ?_
    clear hS
    rintro _ w ⟨b12, rfl, hS⟩
    have hT := hT.back hS (by first | exact Le.refl _ | assumption) (fun x hx => by try simp only [List.take_succ_cons, List.take_zero, List.mem_cons, List.not_mem_nil, or_false] at hx; (rcases hx with rfl) <;> simp)
    refine ⟨fun _ _ => hT, ?_⟩
    refine al_at ?_ (ha.put (blt_lt rfl) _)
    refine al_step (i := 3) rfl (by kernel_rfl) rfl (op_call_rt hS cf_12 rfl (fun _ => .inr rfl) (fun _ _ _ hl h => h.mono ERule.mono hl) (R18_Rules_c _ _ hS.hold _ _ hRv (by omega))) ?_
    clear hS
    rintro v47 w ⟨Gf, hl47, hR47, hS⟩
    obtain ⟨oF, cF, rfl, _, _⟩ := (show RSl 3 ERule Gf v47 (rulesS (factsOf rs)) from hR47).elim
    have hFr : RSl 3 ERule Gf (.slice oF (rulesS (factsOf rs)).length cF) (rulesS (factsOf rs)) := hR47
    replace hA := hA.mono ETriv.mono hl47
    replace hR := hR.mono ERule.mono hl47
    have hT := hT.back hS (by first | exact Le.refl _ | assumption) (fun x hx => by try simp only [List.take_succ_cons, List.take_zero, List.mem_cons, List.not_mem_nil, or_false] at hx; (rcases hx with rfl) <;> simp)
    refine ⟨fun _ _ => hT, ?_⟩
    refine al_take (i := 4) rfl (by kernel_rfl) (by kernel_rfl) (by kernel_rfl) rfl (fun _ _ _ h => h) (op_build (is := [0, 1]) (xs := [.tmp 45, .tmp 47]) (v := .agg #[.slice oA atoms.length cA, .slice oF (rulesS (factsOf rs)).length cF]) rfl rfl (fun w => by kernel_rfl)) rfl ?_
    exact K8 _ _ _ _ (by kernel_rfl) (by exact ⟨oF, cF, b12, Gf, rfl, hl47, hFr, hS⟩) ((Sub.cons rfl (Sub.cons rfl (Sub.cons rfl (Sub.cons rfl (Sub.cons rfl Sub.nil))))))
  ·
   skip
   have hTo := hT
   clear hS hT
   rintro e w ⟨oF, cF, b12, Gd, rfl, hld, hFr, hS⟩
   have hT := hTo.back hS (by first | exact Le.refl _ | assumption) (fun x hx => by try simp only [List.take_succ_cons, List.take_zero, List.mem_cons, List.not_mem_nil, or_false] at hx; (rcases hx with rfl) <;> simp)
   clear hTo
   replace hA := hA.mono ETriv.mono hld
   replace hR := hR.mono ERule.mono hld
   refine al_step0 (i := 6) rfl (by kernel_rfl) (op_storeN (j := 0) hS sz_26 rfl rfl rfl rfl rfl (by simp [Value.oneCell'])) ?_
   clear hS
   rintro _ w hS; (try simp only [List.nil_append, List.cons_append, List.set] at hS)
   refine ⟨no_need (by kernel_rfl), ?_⟩
   refine al_done (by kernel_rfl) ?_
   refine pq_then ?_
   refine cw_seq ?_
   refine cw_region ?_
   refine ol_load rfl (op_loadN agg_26 rfl (by rfl) (fun w hw k u hk => (hw.bcell (i := 0) rfl).trans hk)) hS ?_
   refine ol_step rfl (op_call_rt hS cf_13 rfl (fun _ => .inr rfl) (whyMono) (just_Why_c _ _ hS.hold ETriv.mono _ _ atoms (rulesS (factsOf rs)) hA hFr hPF)) ?_
   clear hS
   rintro v50 w ⟨Gw, hl50, hR50, hS⟩
   obtain ⟨vs1, vh1, rfl, hs1, hh1⟩ := hR50
   obtain ⟨oS1, cS1, rfl, _, _⟩ := hs1.elim
   obtain ⟨oH1, cH1, rfl, _, _⟩ := hh1.elim
   have hs1le := hs1.le
   replace hA := hA.mono ETriv.mono hl50
   replace hFr := hFr.mono ERule.mono hl50
   refine ol_step rfl (op_alloc hS el_34 rfl) ?_
   clear hS
   rintro _ w ⟨b13, rfl, hS⟩
   refine ol_step0  (op_storeN (j := 0) hS sz_34 rfl rfl rfl rfl rfl (by simp [Value.oneCell'])) ?_
   clear hS
   rintro _ w hS; (try simp only [List.nil_append, List.cons_append, List.set] at hS)
   refine ol_nil ?_
   refine pq_then ?_
   refine cw_seq ?_
   refine cw_seq ?_
   refine cw_region ?_
   refine ol_pure rfl (op_fieldAddr fld_34_1 rfl) ?_
   refine ol_load rfl (op_load1 one_28 rfl (fun w hw => (hw.bcell (i := 0) rfl).trans rfl)) hS ?_
   refine ol_pure rfl (op_len sl_28 rfl rfl) ?_
   refine ol_pure rfl (op_neqF rfl rfl (by rw [facts_holds hF hPF]; rfl)) ?_
   refine ol_pure rfl (op_move rfl) ?_
   refine ol_guard_pure rfl rfl rfl (op_fieldAddr fld_34_0 rfl) ?_
   refine ol_guard_load rfl rfl rfl (op_load1 one_32 rfl (fun w hw => (hw.bcell (i := 0) rfl).trans rfl)) hS ?_
   refine ol_guard_pure rfl rfl rfl (op_len sl_32 rfl rfl) ?_
   refine ol_guard_pure rfl rfl rfl (op_fieldAddr fld_26_1 rfl) ?_
   refine ol_guard_load rfl rfl rfl (op_load1 one_22 rfl (fun w hw => (hw.bcell (i := 1) rfl).trans rfl)) hS ?_
   refine ol_guard_pure rfl rfl rfl (op_len sl_22 rfl rfl) ?_
   refine ol_guard_pure rfl rfl rfl (op_lssF rfl rfl (by omega)) ?_
   refine ol_pure rfl (op_pick_f rfl rfl) ?_
   refine ol_pure rfl (op_move rfl) ?_
   refine ol_guard_pure rfl rfl rfl (op_fieldAddr fld_34_0 rfl) ?_
   refine ol_guard_load rfl rfl rfl (op_load1 one_32 rfl (fun w hw => (hw.bcell (i := 0) rfl).trans rfl)) hS ?_
   refine ol_guard_pure rfl rfl rfl (op_len sl_32 rfl rfl) ?_
   refine ol_guard_pure rfl rfl rfl (op_fieldAddr fld_26_1 rfl) ?_
   refine ol_guard_load rfl rfl rfl (op_load1 one_22 rfl (fun w hw => (hw.bcell (i := 1) rfl).trans rfl)) hS ?_
   refine ol_guard_pure rfl rfl rfl (op_len sl_22 rfl rfl) ?_
   refine ol_guard_pure rfl rfl rfl (op_add rfl rfl (by omega) (by omega)) ?_
   refine ol_guard_pure rfl rfl rfl (op_gtrF rfl rfl (by omega)) ?_
   refine ol_pure rfl (op_pick_f rfl rfl) ?_
   refine ol_nil ?_
   refine pq_then ?_
   refine cw_cond_f rfl ?_
   refine cw_skip ?_
   refine pq_then ?_
   refine cw_seq ?_
   refine cw_seq ?_
   refine cw_region ?_
   refine ol_pure rfl (op_assign rfl) ?_
   refine ol_nil ?_
   refine pq_then ?_
   refine cw_block ?_
   refine cw_loop (fun e w n => ∃ (i : Nat), e = [(7, .bool true), (8, .pointer (some ⟨b8, 0, none⟩)), (10, .int .i64 (aa : Nat)), (12, .pointer (some ⟨b12, 0, none⟩)), (13, .pointer (some ⟨b13, 0, none⟩)), (14, .int .i64 (i : Nat))] ∧ i ≤ (rulesS (factsOf rs)).length ∧ n = (rulesS (factsOf rs)).length - i ∧ SS G w0 Gw [.blk b13 34 [.slice oS1 (whyP atoms.length (rulesS (factsOf rs))).1.length cS1, .slice oH1 (whyP atoms.length (rulesS (factsOf rs))).2.length cH1], .blk b12 26 [.slice oA atoms.length cA, .slice oF (rulesS (factsOf rs)).length cF], .blk b8 26 [.slice oA atoms.length cA, .slice oR rs.length cR]] w) _ _ (by exact ⟨0, rfl, Nat.zero_le _, rfl, hS⟩) ((Sub.cons rfl (Sub.cons rfl (Sub.cons rfl (Sub.cons rfl (Sub.cons rfl (Sub.cons rfl Sub.nil))))))) ?_
   clear hS
   rintro e w n ⟨i, rfl, hi0, rfl, hS⟩
   refine cw_seq ?_
   refine cw_seq ?_
   refine cw_region ?_
   refine ol_pure rfl (op_move rfl) ?_
   refine ol_pure rfl (op_fieldAddr fld_26_1 rfl) ?_
   refine ol_load rfl (op_load1 one_22 rfl (fun w hw => (hw.bcell (i := 1) rfl).trans rfl)) hS ?_
   refine ol_pure rfl (op_len sl_22 rfl rfl) ?_
   refine ol_pure rfl (op_lss rfl rfl) ?_
   refine ol_nil ?_
   refine pq_then ?_
   refine cw_cond rfl (fun h78 => ?_) (fun h78 => ?_)
   ·
    skip
    try simp only [decide_eq_true_eq, decide_eq_false_iff_not, Bool.not_eq_true', Bool.not_eq_false', Bool.not_eq_eq_eq_not, Bool.not_true, Bool.not_false] at h78
    have hi : i < (rulesS (factsOf rs)).length := by omega
    obtain ⟨hil, hir⟩ := facts_rule hF hPF hi
    obtain ⟨hoS, _, _, ⟨vk, rfl, hvk, hrk⟩, hcells⟩ := hs1.el hil
    have hc0 := hcells 0 _ rfl
    rw [hir] at hc0
    refine cw_skip ?_
    refine pq_then ?_
    refine cw_seq ?_
    refine cw_block ?_
    refine cw_seq ?_
    refine cw_region ?_
    refine ol_pure rfl (op_fieldAddr fld_34_0 rfl) ?_
    refine ol_load rfl (op_load1 one_32 rfl (fun w hw => (hw.bcell (i := 0) rfl).trans rfl)) hS ?_
    refine ol_pure rfl (op_move rfl) ?_
    refine ol_pure rfl (op_indexN sl_32 rfl rfl (by omega) hoS) ?_
    refine ol_pure rfl (op_fieldAddr fld_37_0 rfl) ?_
    refine ol_load rfl (op_load1 one_3 rfl (fun w hw => hw.gcell hc0)) hS ?_
    refine ol_pure rfl (op_move rfl) ?_
    refine ol_pure rfl (op_neqF rfl rfl rfl) ?_
    refine ol_nil ?_
    refine pq_then ?_
    refine cw_cond_f rfl ?_
    refine cw_skip ?_
    refine pq_in_normal ?_
    refine pq_then ?_
    refine cw_region ?_
    refine ol_pure rfl (op_move rfl) ?_
    refine ol_pure rfl (op_add rfl rfl (by omega) (by omega)) ?_
    refine ol_pure rfl (op_assign rfl) ?_
    refine ol_nil ?_
    refine pq_loop _ _ (by exact ⟨i + 1, rfl, by omega, rfl, hS⟩) ((Sub.cons rfl (Sub.cons rfl (Sub.cons rfl (Sub.cons rfl (Sub.cons rfl (Sub.cons rfl Sub.nil))))))) (by omega)
   ·
    skip
    try simp only [decide_eq_true_eq, decide_eq_false_iff_not, Bool.not_eq_true', Bool.not_eq_false', Bool.not_eq_eq_eq_not, Bool.not_true, Bool.not_false] at h78
    refine cw_exit ?_
    refine pq_exit ?_
    refine pq_exit ?_
    refine pq_in_exit ?_
    refine pq_then ?_
    refine cw_seq ?_
    refine al_start' hS (hS.take 2) (by kernel_rfl) rfl (fun w hS hT => ?_)
    refine al_load (i := 0) rfl (by kernel_rfl) (by kernel_rfl) (by kernel_rfl) rfl (fun _ _ _ h => h) (by exact op_loadN agg_26 rfl (by rfl) (fun w hw k u hk => (hw.bcell (i := 1) rfl).trans hk)) rfl hT ?_
    refine al_load (i := 1) rfl (by kernel_rfl) (by kernel_rfl) (by kernel_rfl) rfl (fun _ _ _ h => h) (by exact op_loadN agg_26 rfl (by rfl) (fun w hw k u hk => (hw.bcell (i := 1) rfl).trans hk)) rfl hT ?_
    refine al_take (i := 3) rfl (by kernel_rfl) (by kernel_rfl) (by kernel_rfl) rfl (fun _ _ _ h => h) (op_move rfl) rfl ?_
    refine al_meet (fuel2 := 1) (ds2 := [5, 4, 3, 2, 1, 0]) (fun e w => ∃ oQ cQ oU nU cU b15 Gz, e = [(7, .bool true), (8, .pointer (some ⟨b8, 0, none⟩)), (12, .pointer (some ⟨b12, 0, none⟩)), (13, .pointer (some ⟨b13, 0, none⟩)), (15, .pointer (some ⟨b15, 0, none⟩)), (93, .agg #[.slice oQ 1 cQ, .slice oU nU cU])] ∧ Le Gw Gz ∧ SS G w0 Gz [.blk b15 34 [.slice none 0 0, .slice none 0 0], .blk b13 34 [.slice oS1 (whyP atoms.length (rulesS (factsOf rs))).1.length cS1, .slice oH1 (whyP atoms.length (rulesS (factsOf rs))).2.length cH1], .blk b12 26 [.slice oA atoms.length cA, .slice oF (rulesS (factsOf rs)).length cF], .blk b8 26 [.slice oA atoms.length cA, .slice oR rs.length cR]] w) (fun K17 => ?_) ?_
    ·
     skip
     refine al_two (i := 2) (j := 5) (by kernel_rfl) (fun a ha => ?_) (fun a ha => ?_)
     ·
      skip
      refine wpOp_of_opk (i := 2) rfl ha (op_call_rt hS cf_15 rfl (fun _ => .inr rfl) (whyMono) (R21_Why_c _ _ hS.hold ETriv.mono _ _ atoms (rulesS (factsOf rs)) hA hFr hPF)) ?_
      clear hS
      rintro v91 w ⟨Gx, hl91, hR91, hS⟩
      obtain ⟨vs2, vh2, rfl, hs2, hh2⟩ := hR91
      replace hA := hA.mono ETriv.mono hl91
      replace hFr := hFr.mono ERule.mono hl91
      have hT := hT.back hS (by first | exact Le.refl _ | assumption) (fun x hx => by try simp only [List.take_succ_cons, List.take_zero, List.mem_cons, List.not_mem_nil, or_false] at hx; (rcases hx with rfl | rfl) <;> simp)
      refine ⟨fun _ _ => hT, ?_⟩
      refine al_at ?_ (ha.put (blt_lt rfl) _)
      refine al_two (i := 4) (j := 5) (by kernel_rfl) (fun a ha => ?_) (fun a ha => ?_)
      ·
       skip
       refine wpOp_of_opk (i := 4) rfl ha (op_call_rt hS cf_14 rfl (fun _ => .inr rfl) (whyMono) (just_For_c _ _ hS.hold ETriv.mono _ _ atoms (rulesS (factsOf rs)) hA hFr hPF _ _ _ _ hs2 hh2 hlean (by omega) (aa : Int))) ?_
       clear hS
       rintro v93 w ⟨Gy, hl93, hR93, hS⟩
       obtain ⟨vs3, vh3, rfl, hs3, hh3⟩ := hR93
       obtain ⟨oQ, cQ, rfl, _, _⟩ := hs3.elimN (n := 1) (facts_for hF hPF (by omega) (by omega))
       obtain ⟨oU, nU, cU, rfl⟩ : ∃ oU nU cU, vh3 = .slice oU nU cU := by obtain ⟨o, c, e, _⟩ := hh3.elim; exact ⟨_, _, _, e⟩
       have hl9x := hl91.trans hl93
       have hT := hT.back hS (by first | exact Le.refl _ | assumption) (fun x hx => by try simp only [List.take_succ_cons, List.take_zero, List.mem_cons, List.not_mem_nil, or_false] at hx; (rcases hx with rfl | rfl) <;> simp)
       refine ⟨fun _ _ => hT, ?_⟩
       refine al_at ?_ (ha.put (blt_lt rfl) _)
       refine al_step (i := 5) rfl (by kernel_rfl) rfl (op_alloc hS el_34 rfl) ?_
       clear hS
       rintro _ w ⟨b15, rfl, hS⟩
       have hT := hT.back hS (by first | exact Le.refl _ | assumption) (fun x hx => by try simp only [List.take_succ_cons, List.take_zero, List.mem_cons, List.not_mem_nil, or_false] at hx; (rcases hx with rfl | rfl) <;> simp)
       refine ⟨fun _ _ => hT, ?_⟩
       exact K17 _ _ _ _ (by kernel_rfl) (by exact ⟨oQ, cQ, oU, nU, cU, b15, Gy, rfl, hl9x, hS⟩) ((Sub.cons rfl (Sub.cons rfl (Sub.cons rfl (Sub.cons rfl (Sub.cons rfl (Sub.cons rfl Sub.nil)))))))
      ·
       skip
       refine wpOp_of_opk (i := 5) rfl ha (op_alloc hS el_34 rfl) ?_
       clear hS
       rintro _ w ⟨b15, rfl, hS⟩
       have hT := hT.back hS (by first | exact Le.refl _ | assumption) (fun x hx => by try simp only [List.take_succ_cons, List.take_zero, List.mem_cons, List.not_mem_nil, or_false] at hx; (rcases hx with rfl | rfl) <;> simp)
       refine ⟨fun _ _ => hT, ?_⟩
       refine al_at ?_ (ha.put (blt_lt rfl) _)
       refine al_step (i := 4) rfl (by kernel_rfl) rfl (op_call_rt hS cf_14 rfl (fun _ => .inr rfl) (whyMono) (just_For_c _ _ hS.hold ETriv.mono _ _ atoms (rulesS (factsOf rs)) hA hFr hPF _ _ _ _ hs2 hh2 hlean (by omega) (aa : Int))) ?_
       clear hS
       rintro v93 w ⟨Gy, hl93, hR93, hS⟩
       obtain ⟨vs3, vh3, rfl, hs3, hh3⟩ := hR93
       obtain ⟨oQ, cQ, rfl, _, _⟩ := hs3.elimN (n := 1) (facts_for hF hPF (by omega) (by omega))
       obtain ⟨oU, nU, cU, rfl⟩ : ∃ oU nU cU, vh3 = .slice oU nU cU := by obtain ⟨o, c, e, _⟩ := hh3.elim; exact ⟨_, _, _, e⟩
       have hl9x := hl91.trans hl93
       have hT := hT.back hS (by first | exact Le.refl _ | assumption) (fun x hx => by try simp only [List.take_succ_cons, List.take_zero, List.mem_cons, List.not_mem_nil, or_false] at hx; (rcases hx with rfl | rfl) <;> simp)
       refine ⟨fun _ _ => hT, ?_⟩
       exact K17 _ _ _ _ (by kernel_rfl) (by exact ⟨oQ, cQ, oU, nU, cU, b15, Gy, rfl, hl9x, hS⟩) ((Sub.cons rfl (Sub.cons rfl (Sub.cons rfl (Sub.cons rfl (Sub.cons rfl (Sub.cons rfl Sub.nil)))))))
     ·
      skip
      refine wpOp_of_opk (i := 5) rfl ha (op_alloc hS el_34 rfl) ?_
      clear hS
      rintro _ w ⟨b15, rfl, hS⟩
      have hT := hT.back hS (by first | exact Le.refl _ | assumption) (fun x hx => by try simp only [List.take_succ_cons, List.take_zero, List.mem_cons, List.not_mem_nil, or_false] at hx; (rcases hx with rfl | rfl) <;> simp)
      refine ⟨fun _ _ => hT, ?_⟩
      refine al_at ?_ (ha.put (blt_lt rfl) _)
      refine al_step (i := 2) rfl (by kernel_rfl) rfl (op_call_rt hS cf_15 rfl (fun _ => .inr rfl) (whyMono) (R21_Why_c _ _ hS.hold ETriv.mono _ _ atoms (rulesS (factsOf rs)) hA hFr hPF)) ?_
      clear hS
      rintro v91 w ⟨Gx, hl91, hR91, hS⟩
      obtain ⟨vs2, vh2, rfl, hs2, hh2⟩ := hR91
      replace hA := hA.mono ETriv.mono hl91
      replace hFr := hFr.mono ERule.mono hl91
      have hT := hT.back hS (by first | exact Le.refl _ | assumption) (fun x hx => by try simp only [List.take_succ_cons, List.take_zero, List.mem_cons, List.not_mem_nil, or_false] at hx; (rcases hx with rfl | rfl) <;> simp)
      refine ⟨fun _ _ => hT, ?_⟩
      refine al_step (i := 4) rfl (by kernel_rfl) rfl (op_call_rt hS cf_14 rfl (fun _ => .inr rfl) (whyMono) (just_For_c _ _ hS.hold ETriv.mono _ _ atoms (rulesS (factsOf rs)) hA hFr hPF _ _ _ _ hs2 hh2 hlean (by omega) (aa : Int))) ?_
      clear hS
      rintro v93 w ⟨Gy, hl93, hR93, hS⟩
      obtain ⟨vs3, vh3, rfl, hs3, hh3⟩ := hR93
      obtain ⟨oQ, cQ, rfl, _, _⟩ := hs3.elimN (n := 1) (facts_for hF hPF (by omega) (by omega))
      obtain ⟨oU, nU, cU, rfl⟩ : ∃ oU nU cU, vh3 = .slice oU nU cU := by obtain ⟨o, c, e, _⟩ := hh3.elim; exact ⟨_, _, _, e⟩
      have hl9x := hl91.trans hl93
      have hT := hT.back hS (by first | exact Le.refl _ | assumption) (fun x hx => by try simp only [List.take_succ_cons, List.take_zero, List.mem_cons, List.not_mem_nil, or_false] at hx; (rcases hx with rfl | rfl) <;> simp)
      refine ⟨fun _ _ => hT, ?_⟩
      exact K17 _ _ _ _ (by kernel_rfl) (by exact ⟨oQ, cQ, oU, nU, cU, b15, Gy, rfl, hl9x, hS⟩) ((Sub.cons rfl (Sub.cons rfl (Sub.cons rfl (Sub.cons rfl (Sub.cons rfl (Sub.cons rfl Sub.nil)))))))
    ·
     skip
     have hTo := hT
     clear hS hT
     rintro e w ⟨oQ, cQ, oU, nU, cU, b15, Gz, rfl, hlz, hS⟩
     have hT := hTo.back hS (by first | exact Le.refl _ | assumption) (fun x hx => by try simp only [List.take_succ_cons, List.take_zero, List.mem_cons, List.not_mem_nil, or_false] at hx; (rcases hx with rfl | rfl) <;> simp)
     clear hTo
     refine al_step0 (i := 6) rfl (by kernel_rfl) (op_storeN (j := 0) hS sz_34 rfl rfl rfl rfl rfl (by simp [Value.oneCell'])) ?_
     clear hS
     rintro _ w hS; (try simp only [List.nil_append, List.cons_append, List.set] at hS)
     refine ⟨no_need (by kernel_rfl), ?_⟩
     refine al_done (by kernel_rfl) ?_
     refine pq_then ?_
     refine cw_seq ?_
     refine cw_region ?_
     refine ol_pure rfl (op_fieldAddr fld_34_0 rfl) ?_
     refine ol_load rfl (op_load1 one_32 rfl (fun w hw => (hw.bcell (i := 0) rfl).trans rfl)) hS ?_
     refine ol_pure rfl (op_len sl_32 rfl rfl) ?_
     refine ol_pure rfl (op_eqlT rfl rfl rfl) ?_
     refine ol_pure rfl (op_move rfl) ?_
     refine ol_guard_pure rfl rfl rfl (op_fieldAddr fld_34_0 rfl) ?_
     refine ol_guard_load rfl rfl rfl (op_load1 one_32 rfl (fun w hw => (hw.bcell (i := 1) rfl).trans rfl)) hS ?_
     refine ol_guard_pure rfl rfl rfl (op_len sl_32 rfl rfl) ?_
     refine ol_guard_pure rfl rfl rfl (op_fieldAddr fld_26_0 rfl) ?_
     refine ol_guard_load rfl rfl rfl (op_load1 one_24 rfl (fun w hw => (hw.bcell (i := 3) rfl).trans rfl)) hS ?_
     refine ol_guard_pure rfl rfl rfl (op_len sl_24 rfl rfl) ?_
     refine ol_guard_pure rfl rfl rfl (op_val (op_leq rfl rfl) (congrArg Value.bool (decide_eq_true (by omega)))) ?_
     refine ol_pure rfl (op_pick_t rfl rfl) ?_
     refine ol_pure rfl (op_move rfl) ?_
     refine ol_guard_pure rfl rfl rfl (op_fieldAddr fld_34_0 rfl) ?_
     refine ol_guard_load rfl rfl rfl (op_load1 one_32 rfl (fun w hw => (hw.bcell (i := 1) rfl).trans rfl)) hS ?_
     refine ol_guard_pure rfl rfl rfl (op_len sl_32 rfl rfl) ?_
     refine ol_guard_pure rfl rfl rfl (op_fieldAddr fld_26_1 rfl) ?_
     refine ol_guard_load rfl rfl rfl (op_load1 one_22 rfl (fun w hw => (hw.bcell (i := 2) rfl).trans rfl)) hS ?_
     refine ol_guard_pure rfl rfl rfl (op_len sl_22 rfl rfl) ?_
     refine ol_guard_pure rfl rfl rfl (op_eql rfl rfl) ?_
     refine ol_guard_pure rfl rfl rfl (op_fieldAddr fld_26_1 rfl) ?_
     refine ol_guard_load rfl rfl rfl (op_load1 one_22 rfl (fun w hw => (hw.bcell (i := 2) rfl).trans rfl)) hS ?_
     refine ol_guard_pure rfl rfl rfl (op_len sl_22 rfl rfl) ?_
     refine ol_guard_pure rfl rfl rfl (op_fieldAddr fld_26_0 rfl) ?_
     refine ol_guard_load rfl rfl rfl (op_load1 one_24 rfl (fun w hw => (hw.bcell (i := 3) rfl).trans rfl)) hS ?_
     refine ol_guard_pure rfl rfl rfl (op_len sl_24 rfl rfl) ?_
     refine ol_guard_pure rfl rfl rfl (op_eql rfl rfl) ?_
     have hbe : (decide ((((whyP atoms.length (rulesS (factsOf rs))).1.length : Nat) : Int) = (((rulesS (factsOf rs)).length : Nat) : Int)) == decide ((((rulesS (factsOf rs)).length : Nat) : Int) = ((atoms.length : Nat) : Int))) = true := by
       rw [beq_iff_eq]
       refine decide_eq_decide.2 ?_
       rw [Int.ofNat_inj, Int.ofNat_inj]
       exact hiff
     refine ol_guard_pure rfl rfl rfl (op_val (op_eqlB Try.underlying4 rfl rfl) (congrArg Value.bool hbe)) ?_
     refine ol_pure rfl (op_pick_t rfl rfl) ?_
     refine ol_pure rfl (op_move rfl) ?_
     refine ol_guard_pure rfl rfl rfl (op_move rfl) ?_
     refine ol_pure rfl (op_pick_t rfl rfl) ?_
     refine ol_pure rfl (op_assign rfl) ?_
     refine ol_nil ?_
     refine pq_then ?_
     refine cw_ret ?_
     refine ret1 rfl rfl ?_
     exact hS.sc_b rfl
end Go.Proofs.Ytmkgechdfimfnaa.K
