/-
  JustTells: its walk.
  No condition but the premises that each theorem names.
-/
import Derived.Test.YtmkgechdfimfnaaLJhead
import Derived.Test.YtmkgechdfimfnaaPlq
import Derived.Test.YtmkgechdfimfnaaR21c
import Derived.Test.YtmkgechdfimfnaaR21e
namespace Go.Proofs.Ytmkgechdfimfnaa.K
open Go Go.RowKit
set_option linter.unusedVariables false
set_option linter.unusedSimpArgs false

open Pl
def anyP (l : List Step) : List Step := (l.take 20).map fun s => ⟨s.rule, s.atoms.take 12⟩
theorem anyP_succ {l : List Step} {k : Nat} (h : k < l.length) : (l.take (k + 1)).map (fun s : Step => (⟨s.rule, s.atoms.take 12⟩ : Step)) = (l.take k).map (fun s : Step => (⟨s.rule, s.atoms.take 12⟩ : Step)) ++ [⟨l[k].rule, l[k].atoms.take 12⟩] := by
  rw [List.take_succ_eq_append_getElem h, List.map_append]
  rfl

set_option maxRecDepth 100000 in
set_option maxHeartbeats 1000000 in

theorem L21_steps_c (G : GH) (w0 : World) (hG : Holds G w0) (v : Value) (l : List Step) (h1 : RSl 2 EStep G v l) :
   Calls Try.prog 16 #[v] w0 (Rt G w0 (fun G v => RSl 2 EStep G v (anyP l))) := by
 obtain ⟨oa, c, rfl, hlc, hcm⟩ := h1.elim
 have hle := h1.le
 refine enter Try.func16 rfl (N := 41) rfl (Nat.le_of_ble_eq_true rfl) ?_
 have hS := SS.init hG
 refine cw_seq ?_
 refine cw_region ?_
 refine ol_pure rfl (op_assign rfl) ?_
 refine ol_nil ?_
 refine pq_then ?_
 refine cw_seq ?_
 refine cw_region ?_
 refine ol_step rfl (op_buildSlice (el := 37) (is := []) (xs := []) (sz := 2) (cs := []) hS rfl rfl (fun w => by kernel_rfl) rfl (by decide)) ?_
 clear hS
 rintro _ w ⟨o3, rfl, hS⟩
 refine ol_pure rfl (op_assign rfl) ?_
 refine ol_nil ?_
 refine pq_then ?_
 refine cw_seq ?_
 refine cw_seq ?_
 refine cw_region ?_
 refine ol_pure rfl (op_assign rfl) ?_
 refine ol_nil ?_
 refine pq_then ?_
 refine cw_block ?_
 refine cw_loop (fun e w n => ∃ (k : Nat) (o3 : Option Addr) (c3 : Nat) (us : List Value) (Gk : GH), e = [(0, .slice oa l.length c), (3, .slice o3 k c3), (4, .int .i64 (k : Nat))] ∧ k ≤ l.length ∧ k ≤ 20 ∧ n = l.length - k ∧ Le G Gk ∧ Rows 2 EStep Gk us ((l.take k).map (fun s : Step => (⟨s.rule, s.atoms.take 12⟩ : Step))) ∧ SS G w0 Gk [.row o3 k c3 37 2 us] w) _ _ (by exact ⟨0, o3, _, [], G, rfl, Nat.zero_le _, Nat.zero_le _, rfl, Le.refl _, Rows.nil _, hS⟩) ((Sub.cons rfl (Sub.cons rfl (Sub.cons rfl Sub.nil)))) ?_
 clear hS
 rintro e w n ⟨k, o3, c3, us, Gk, rfl, hk, hk20, rfl, hlk, hus, hS⟩
 refine cw_seq ?_
 refine cw_seq ?_
 refine cw_region ?_
 refine ol_pure rfl (op_move rfl) ?_
 refine ol_pure rfl (op_move rfl) ?_
 refine ol_pure rfl (op_len sl_32 rfl rfl) ?_
 refine ol_pure rfl (op_lss rfl rfl) ?_
 refine ol_pure rfl (op_move rfl) ?_
 refine ol_split (fun h10 => ?_) (fun h10 => ?_)
 ·
  skip
  try simp only [decide_eq_true_eq, decide_eq_false_iff_not, Bool.not_eq_true', Bool.not_eq_false', Bool.not_eq_eq_eq_not, Bool.not_true, Bool.not_false] at h10
  refine ol_guard_pure rfl rfl rfl (op_move rfl) ?_
  refine ol_guard_pure rfl rfl rfl (op_lss rfl rfl) ?_
  refine ol_pure rfl (op_pick_t rfl rfl) ?_
  refine ol_nil ?_
  refine pq_then ?_
  refine cw_cond rfl (fun h13 => ?_) (fun h13 => ?_)
  ·
   skip
   try simp only [decide_eq_true_eq, decide_eq_false_iff_not, Bool.not_eq_true', Bool.not_eq_false', Bool.not_eq_eq_eq_not, Bool.not_true, Bool.not_false] at h13
   have hlt : k < l.length := by omega
   obtain ⟨hoa, _, _, ⟨vk, rfl, hvk, hrk⟩, hcells⟩ := h1.el hlt
   obtain ⟨ov, cv, rfl, hlv, hmv⟩ := hvk.elim
   have hcut := hvk.cut (lo := 0) (hi := min l[k].atoms.length 12) (Nat.zero_le _) (by omega)
   obtain ⟨oY, cY, hY, _, _⟩ := hcut.elimN (n := min l[k].atoms.length 12) (by simp)
   rw [hY, List.drop_zero] at hcut
   have htk : l[k].atoms.take (min l[k].atoms.length 12) = l[k].atoms.take 12 := by
     by_cases h : l[k].atoms.length ≤ 12
     · rw [Nat.min_eq_left h, List.take_of_length_le (Nat.le_refl _), List.take_of_length_le h]
     · rw [Nat.min_eq_right (by omega)]
   rw [htk] at hcut
   have hcb := hcut.bnd
   have hmn : (l[k].atoms.take 12).length = min l[k].atoms.length 12 := by simp; omega
   refine cw_skip ?_
   refine pq_then ?_
   refine cw_seq ?_
   refine cw_block ?_
   refine al_start' hS (hS.take 0) (by kernel_rfl) rfl (fun w hS hT => ?_)
   refine al_take (i := 0) rfl (by kernel_rfl) (by kernel_rfl) (by kernel_rfl) rfl (fun _ _ _ h => h) (op_move rfl) rfl ?_
   refine al_take (i := 1) rfl (by kernel_rfl) (by kernel_rfl) (by kernel_rfl) rfl (fun _ _ _ h => h) (op_move rfl) rfl ?_
   refine al_take (i := 2) rfl (by kernel_rfl) (by kernel_rfl) (by kernel_rfl) rfl (fun _ _ _ h => h) (op_move rfl) rfl ?_
   refine al_take (i := 3) rfl (by kernel_rfl) (by kernel_rfl) (by kernel_rfl) rfl (fun _ _ _ h => h) (op_indexN sl_32 rfl rfl (by omega) hoa) rfl ?_
   refine al_take (i := 4) rfl (by kernel_rfl) (by kernel_rfl) (by kernel_rfl) rfl (fun _ _ _ h => h) (op_fieldAddr fld_37_0 rfl) rfl ?_
   refine al_load (i := 5) rfl (by kernel_rfl) (by kernel_rfl) (by kernel_rfl) rfl (fun _ _ _ h => h) (by exact op_load1 one_3 rfl (fun w hw => hw.gcell (hlk.cell (hcells 0 _ rfl)))) rfl hT ?_
   refine al_take (i := 7) rfl (by kernel_rfl) (by kernel_rfl) (by kernel_rfl) rfl (fun _ _ _ h => h) (op_move rfl) rfl ?_
   refine al_take (i := 8) rfl (by kernel_rfl) (by kernel_rfl) (by kernel_rfl) rfl (fun _ _ _ h => h) (op_move rfl) rfl ?_
   refine al_take (i := 9) rfl (by kernel_rfl) (by kernel_rfl) (by kernel_rfl) rfl (fun _ _ _ h => h) (op_indexN sl_32 rfl rfl (by omega) hoa) rfl ?_
   refine al_take (i := 10) rfl (by kernel_rfl) (by kernel_rfl) (by kernel_rfl) rfl (fun _ _ _ h => h) (op_fieldAddr fld_37_1 rfl) rfl ?_
   refine al_load (i := 11) rfl (by kernel_rfl) (by kernel_rfl) (by kernel_rfl) rfl (fun _ _ _ h => h) (by exact op_load1 one_28 rfl (fun w hw => hw.gcell (hlk.cell (hcells 1 _ rfl)))) rfl hT ?_
   refine al_take (i := 12) rfl (by kernel_rfl) (by kernel_rfl) (by kernel_rfl) rfl (fun _ _ _ h => h) (op_move rfl) rfl ?_
   refine al_take (i := 13) rfl (by kernel_rfl) (by kernel_rfl) (by kernel_rfl) rfl (fun _ _ _ h => h) (op_move rfl) rfl ?_
   refine al_take (i := 14) rfl (by kernel_rfl) (by kernel_rfl) (by kernel_rfl) rfl (fun _ _ _ h => h) (op_indexN sl_32 rfl rfl (by omega) hoa) rfl ?_
   refine al_take (i := 15) rfl (by kernel_rfl) (by kernel_rfl) (by kernel_rfl) rfl (fun _ _ _ h => h) (op_fieldAddr fld_37_1 rfl) rfl ?_
   refine al_load (i := 16) rfl (by kernel_rfl) (by kernel_rfl) (by kernel_rfl) rfl (fun _ _ _ h => h) (by exact op_load1 one_28 rfl (fun w hw => hw.gcell (hlk.cell (hcells 1 _ rfl)))) rfl hT ?_
   refine al_take (i := 17) rfl (by kernel_rfl) (by kernel_rfl) (by kernel_rfl) rfl (fun _ _ _ h => h) (op_len sl_28 rfl rfl) rfl ?_
   refine al_take (i := 18) rfl (by kernel_rfl) (by kernel_rfl) (by kernel_rfl) rfl (fun _ _ _ h => h) (op_minN (m := l[k].atoms.length) (n := 12) rfl rfl) rfl ?_
   refine al_take (i := 19) rfl (by kernel_rfl) (by kernel_rfl) (by kernel_rfl) rfl (fun _ _ _ h => h) (op_val (op_slice_h sl_28 rfl rfl (by omega)) hY) rfl ?_
   refine al_step (i := 6) rfl (by kernel_rfl) rfl (op_buildSlice (el := 3) (is := []) (xs := []) (sz := 1) (cs := []) hS rfl rfl (fun w => by kernel_rfl) rfl (by decide)) ?_
   clear hS
   rintro _ w ⟨s22, rfl, hS⟩
   have hT := hT.back hS (by first | exact Le.refl _ | assumption) (fun x hx => by simp at hx)
   refine ⟨fun _ _ => hT, ?_⟩
   refine al_step (i := 20) rfl (by kernel_rfl) rfl (op_append (j := 0) (m := min l[k].atoms.length 12) (news := (l[k].atoms.take 12).map (Value.int .i64)) hS sl_28 el_3 rfl rfl rfl rfl rfl (by simp; omega) (by decide) ((hcut.mono EInt.mono hlk).newsI hS.hold) (ones_i _) (by omega) (by unfold maxLen; omega)) ?_
   clear hS
   rintro _ w ⟨s22n, c_s22n, rfl, hS⟩; (try simp only [List.nil_append, List.cons_append, List.set] at hS)
   rw [Nat.zero_add] at hS ⊢
   obtain ⟨G9, hl9, hS9, hR9⟩ := SS.give' (l[k].atoms.take 12) [] EInt.mono hS (by decide) (by exact (Rows.ints (l := l[k].atoms.take 12) hcb).mono EInt.mono (fun b o hb => by cases hb)) hmn.symm
   clear hS
   have hS := hS9
   clear hS9
   simp only [List.nil_append] at hS
   have hT := hT.back hS (by first | exact Le.refl _ | assumption) (fun x hx => by simp at hx)
   refine ⟨fun _ _ => hT, ?_⟩
   refine al_take (i := 21) rfl (by kernel_rfl) (by kernel_rfl) (by kernel_rfl) rfl (fun _ _ _ h => h) (op_build (is := [0, 1]) (xs := [.tmp 21, .tmp 36]) (v := .agg #[.int .i64 l[k].rule, .slice s22n (min l[k].atoms.length 12) c_s22n]) rfl rfl (fun w => by kernel_rfl)) rfl ?_
   refine al_step (i := 22) rfl (by kernel_rfl) rfl (op_buildSlice (el := 37) (is := [0]) (xs := [.tmp 37]) (sz := 2) (cs := [.int .i64 l[k].rule, .slice s22n (min l[k].atoms.length 12) c_s22n]) hS rfl rfl (fun w => by kernel_rfl) rfl (by decide)) ?_
   clear hS
   rintro _ w ⟨s38, rfl, hS⟩
   have hT := hT.back hS (by first | exact Le.refl _ | assumption) (fun x hx => by simp at hx)
   refine ⟨fun _ _ => hT, ?_⟩
   refine al_step (i := 23) rfl (by kernel_rfl) rfl (op_append (j := 1) hS sl_32 el_37 rfl rfl rfl rfl rfl rfl (by decide) (hS.news (j := 0) rfl) (by simp [Value.oneCell']) (by omega) (by unfold maxLen; omega)) ?_
   clear hS
   rintro _ w ⟨o3n, c_o3n, rfl, hS⟩; (try simp only [List.nil_append, List.cons_append, List.set] at hS); replace hS := SS.drop [] hS; (try simp only [List.nil_append, List.cons_append] at hS)
   have hT := hT.back hS (by first | exact Le.refl _ | assumption) (fun x hx => by simp at hx)
   refine ⟨fun _ _ => hT, ?_⟩
   refine al_take (i := 24) rfl (by kernel_rfl) (by kernel_rfl) (by kernel_rfl) rfl (fun _ _ _ h => h) (op_assign rfl) rfl ?_
   refine al_done (by kernel_rfl) ?_
   refine pq_in_normal ?_
   refine pq_then ?_
   refine cw_region ?_
   refine ol_pure rfl (op_move rfl) ?_
   refine ol_pure rfl (op_add rfl rfl (by omega) (by omega)) ?_
   refine ol_pure rfl (op_assign rfl) ?_
   refine ol_nil ?_
   refine pq_loop _ _ (by exact ⟨k + 1, o3n, c_o3n, _, G9, rfl, by omega, by omega, rfl, hlk.trans hl9, by rw [anyP_succ hlt]; exact (hus.mono EStep.mono hl9).snoc rfl ⟨_, rfl, hR9, hrk⟩, hS⟩) ((Sub.cons rfl (Sub.cons rfl (Sub.cons rfl Sub.nil)))) (by omega)
  ·
   skip
   try simp only [decide_eq_true_eq, decide_eq_false_iff_not, Bool.not_eq_true', Bool.not_eq_false', Bool.not_eq_eq_eq_not, Bool.not_true, Bool.not_false] at h13
   refine cw_exit ?_
   refine pq_exit ?_
   refine pq_exit ?_
   refine pq_in_exit ?_
   refine pq_then ?_
   refine cw_seq ?_
   refine cw_region ?_
   refine ol_pure rfl (op_move rfl) ?_
   refine ol_pure rfl (op_assign rfl) ?_
   refine ol_nil ?_
   refine pq_then ?_
   refine cw_ret ?_
   refine ret1 rfl rfl ?_
   have htk : l.take k = l.take 20 := by
     by_cases h4 : k = 20
     · rw [h4]
     · rw [List.take_of_length_le (by omega : l.length ≤ k), List.take_of_length_le (by omega : l.length ≤ 20)]
   rw [htk] at hus
   obtain ⟨G7, hl7, hS7, hR7⟩ := SS.give' (anyP l) [] EStep.mono hS (by decide) hus (by unfold anyP; rw [← htk]; simp; omega)
   exact hS7.rt _ hR7
 ·
  skip
  try simp only [decide_eq_true_eq, decide_eq_false_iff_not, Bool.not_eq_true', Bool.not_eq_false', Bool.not_eq_eq_eq_not, Bool.not_true, Bool.not_false] at h10
  refine ol_guard_no rfl rfl rfl rfl ?_
  refine ol_guard_no rfl rfl rfl rfl ?_
  refine ol_pure rfl (op_pick_f rfl rfl) ?_
  refine ol_nil ?_
  refine pq_then ?_
  refine cw_cond_f rfl ?_
  refine cw_exit ?_
  refine pq_exit ?_
  refine pq_exit ?_
  refine pq_in_exit ?_
  refine pq_then ?_
  refine cw_seq ?_
  refine cw_region ?_
  refine ol_pure rfl (op_move rfl) ?_
  refine ol_pure rfl (op_assign rfl) ?_
  refine ol_nil ?_
  refine pq_then ?_
  refine cw_ret ?_
  refine ret1 rfl rfl ?_
  have htk : l.take k = l.take 20 := by
    by_cases h4 : k = 20
    · rw [h4]
    · rw [List.take_of_length_le (by omega : l.length ≤ k), List.take_of_length_le (by omega : l.length ≤ 20)]
  rw [htk] at hus
  obtain ⟨G7, hl7, hS7, hR7⟩ := SS.give' (anyP l) [] EStep.mono hS (by decide) hus (by unfold anyP; rw [← htk]; simp; omega)
  exact hS7.rt _ hR7
set_option maxRecDepth 100000 in
set_option maxHeartbeats 8000000 in

theorem L21_JustTells_c (G : GH) (w0 : World) (hG : Holds G w0) (v : Value) (l : List Rule) (h1 : RSl 3 ERule G v l) (z : Int) (hz : 0 ≤ z ∧ z ≤ 255) (vS : Value) (s : List Step) (h3 : RSl 2 EStep G vS s) :
   Calls Try.prog 4 #[v, .int .u8 z, vS] w0 (Sc w0 (.bool true)) := by
 refine enter Try.func4 rfl (N := 64) rfl (Nat.le_of_ble_eq_true rfl) ?_
 have hS := SS.init hG
 refine cw_seq ?_
 refine cw_region ?_
 refine ol_pure rfl (op_assign rfl) ?_
 refine ol_nil ?_
 refine pq_then ?_
 refine cw_seq ?_
 refine cw_region ?_
 refine ol_step rfl (op_call_sc hS cf_10 rfl (L21_head_c G _ hS.hold)) ?_
 clear hS
 rintro _ w ⟨rfl, hS⟩
 refine ol_pure rfl (op_assign rfl) ?_
 refine ol_nil ?_
 refine pq_then ?_
 refine cw_seq ?_
 refine cw_region ?_
 refine ol_pure rfl (op_move rfl) ?_
 refine ol_pure rfl (op_move rfl) ?_
 refine ol_step rfl (op_call_rt hS cf_11 rfl (fun _ => .inr rfl) (madeMono ETriv.mono) (R18_Made_c _ _ hS.hold v l h1 z hz)) ?_
 clear hS
 rintro v15 w ⟨Gm, hl15, hR15, hS⟩
 obtain ⟨va, vr, rfl, hA, hR⟩ := hR15
 have hmr := madeN_range z
 have hok := madeR_ok l hmr.1 hmr.2
 obtain ⟨atoms, hat⟩ : ∃ atoms : List Unit, atoms = List.replicate (madeN z) () := ⟨_, rfl⟩
 have hal : atoms.length = madeN z := by rw [hat]; simp
 rw [← hat] at hA
 have hP : PrOk atoms.length (madeR l (madeN z)) := by rw [hal]; exact hok.1
 have hNg := hok.2
 rw [← hal] at hmr
 clear hok hal hat
 generalize madeR l (madeN z) = rs at hR hP hNg
 obtain ⟨oA, cA, rfl, _, _⟩ := hA.elim
 obtain ⟨oR, cR, rfl, _, _⟩ := hR.elim
 have hwr := why_runs hP
 have hPn := hP.n_le
 have hPm := hP.m_le
 have hsl := hwr.1.len
 have hlo := hwr.1.lean hP
 have hsm : ∀ s ∈ (whyP atoms.length rs).1, s.atoms.length ≤ 1000 := fun s hs => by have := hwr.1.small s hs; omega
 have hng : ∀ r ∈ rs, r.neg.length ≤ 1000 := fun r hr => by have := (hNg r hr).2; omega
 
 refine ol_step rfl (op_alloc hS el_26 rfl) ?_
 clear hS
 rintro _ w ⟨b8, rfl, hS⟩
 refine ol_step0  (op_storeN (j := 0) hS sz_26 rfl rfl rfl rfl rfl (by simp [Value.oneCell'])) ?_
 clear hS
 rintro _ w hS; (try simp only [List.nil_append, List.cons_append, List.set] at hS)
 refine ol_nil ?_
 refine pq_then ?_
 refine cw_seq ?_
 refine cw_region ?_
 refine ol_load rfl (op_loadN agg_26 rfl (by rfl) (fun w hw k u hk => (hw.bcell (i := 0) rfl).trans hk)) hS ?_
 refine ol_step rfl (op_call_rt hS cf_15 rfl (fun _ => .inr rfl) (whyMono) (R21_Why_c _ _ hS.hold ETriv.mono _ _ atoms rs hA hR hP)) ?_
 clear hS
 rintro v17 w ⟨Gw, hl17, hR17, hS⟩
 obtain ⟨vs1, vh1, rfl, hs1, hh1⟩ := hR17
 obtain ⟨oS1, cS1, rfl, _, _⟩ := hs1.elim
 obtain ⟨oH1, cH1, rfl, _, _⟩ := hh1.elim
 replace hA := hA.mono ETriv.mono hl17
 replace hR := hR.mono ERule.mono hl17
 refine ol_pure rfl (op_move rfl) ?_
 refine ol_step rfl (op_call_rt hS cf_16 rfl (fun _ => .inr rfl) (fun _ _ _ hl h => h.mono EStep.mono hl) (L21_steps_c _ _ hS.hold _ s (h3.mono EStep.mono ((hl15.trans hl17))))) ?_
 clear hS
 rintro v19 w ⟨Gs, hl19, hR19, hS⟩
 obtain ⟨oN, cN, rfl, _, _⟩ := (show RSl 2 EStep Gs v19 (anyP s) from hR19).elim
 have hN : RSl 2 EStep Gs (.slice oN (anyP s).length cN) (anyP s) := hR19
 replace hA := hA.mono ETriv.mono hl19
 replace hR := hR.mono ERule.mono hl19
 replace hs1 := hs1.mono EStep.mono hl19
 replace hh1 := hh1.mono EInt.mono hl19
 refine ol_pure rfl (op_build (is := [0]) (xs := [.tmp 19]) (v := .agg #[.slice oN (anyP s).length cN, .slice none 0 0]) rfl rfl (fun w => by kernel_rfl)) ?_
 refine ol_step rfl (op_alloc hS el_34 rfl) ?_
 clear hS
 rintro _ w ⟨b9, rfl, hS⟩
 refine ol_step rfl (op_alloc hS el_34 rfl) ?_
 clear hS
 rintro _ w ⟨b10, rfl, hS⟩
 refine ol_step0  (op_storeN (j := 1) hS sz_34 rfl rfl rfl rfl rfl (by simp [Value.oneCell'])) ?_
 clear hS
 rintro _ w hS; (try simp only [List.nil_append, List.cons_append, List.set] at hS)
 refine ol_step0  (op_storeN (j := 0) hS sz_34 rfl rfl rfl rfl rfl (by simp [Value.oneCell'])) ?_
 clear hS
 rintro _ w hS; (try simp only [List.nil_append, List.cons_append, List.set] at hS)
 refine ol_nil ?_
 refine pq_then ?_
 refine cw_seq ?_
 refine cw_seq ?_
 have hcur := Le.refl Gs
 refine al_start' hS (hS.take 3) (by kernel_rfl) rfl (fun w hS hT => ?_)
 refine al_load (i := 0) rfl (by kernel_rfl) (by kernel_rfl) (by kernel_rfl) rfl (fun _ _ _ h => h) (by exact op_loadN agg_26 rfl (by rfl) (fun w hw k u hk => (hw.bcell (i := 2) rfl).trans hk)) rfl hT ?_
 refine al_load (i := 2) rfl (by kernel_rfl) (by kernel_rfl) (by kernel_rfl) rfl (fun _ _ _ h => h) (by exact op_loadN agg_34 rfl (by rfl) (fun w hw k u hk => (hw.bcell (i := 1) rfl).trans hk)) rfl hT ?_
 refine al_step (i := 1) rfl (by kernel_rfl) rfl (op_call_rt hS cf_13 rfl (fun _ => .inr rfl) (whyMono) (just_Why_c _ _ hS.hold ETriv.mono _ _ atoms rs hA hR hP)) ?_
 clear hS
 rintro v22 w ⟨G22, hl22, hR22, hS⟩
 obtain ⟨vs2, vh2, rfl, hs2, hh2⟩ := hR22
 obtain ⟨oS2, cS2, rfl, _, _⟩ := hs2.elim
 obtain ⟨oH2, cH2, rfl, _, _⟩ := hh2.elim
 replace hA := hA.mono ETriv.mono hl22
 replace hR := hR.mono ERule.mono hl22
 replace hs1 := hs1.mono EStep.mono hl22
 replace hh1 := hh1.mono EInt.mono hl22
 replace hN := hN.mono EStep.mono hl22
 replace hcur := hcur.trans hl22
 have hT := hT.back hS (by first | exact Le.refl _ | assumption) (fun x hx => by try simp only [List.take_succ_cons, List.take_zero, List.mem_cons, List.not_mem_nil, or_false] at hx; (rcases hx with rfl | rfl | rfl) <;> simp)
 refine ⟨fun _ _ => hT, ?_⟩
 refine al_step (i := 3) rfl (by kernel_rfl) rfl (op_call_sc hS cf_17 rfl (same_t hS.hold hs2 hh2 hs1 hh1)) ?_
 clear hS
 rintro _ w ⟨rfl, hS⟩
 have hT := hT.back hS (by first | exact Le.refl _ | assumption) (fun x hx => by try simp only [List.take_succ_cons, List.take_zero, List.mem_cons, List.not_mem_nil, or_false] at hx; (rcases hx with rfl | rfl | rfl) <;> simp)
 refine ⟨fun _ _ => hT, ?_⟩
 refine al_take (i := 4) rfl (by kernel_rfl) (by kernel_rfl) (by kernel_rfl) rfl (fun _ _ _ h => h) (op_not rfl) rfl ?_
 refine al_take (i := 5) rfl (by kernel_rfl) (by kernel_rfl) (by kernel_rfl) rfl (fun _ _ _ h => h) (op_move rfl) rfl ?_
 refine al_gload (i := 6) rfl (by kernel_rfl) (by kernel_rfl) (by kernel_rfl) rfl rfl rfl (fun _ _ _ h => h) (by exact op_loadN agg_26 rfl (by rfl) (fun w hw k u hk => (hw.bcell (i := 2) rfl).trans hk)) rfl hT ?_
 refine al_gload (i := 7) rfl (by kernel_rfl) (by kernel_rfl) (by kernel_rfl) rfl rfl rfl (fun _ _ _ h => h) (by exact op_loadN agg_34 rfl (by rfl) (fun w hw k u hk => (hw.bcell (i := 0) rfl).trans hk)) rfl hT ?_
 refine al_gload (i := 9) rfl (by kernel_rfl) (by kernel_rfl) (by kernel_rfl) rfl rfl rfl (fun _ _ _ h => h) (by exact op_loadN agg_26 rfl (by rfl) (fun w hw k u hk => (hw.bcell (i := 2) rfl).trans hk)) rfl hT ?_
 refine al_gload (i := 10) rfl (by kernel_rfl) (by kernel_rfl) (by kernel_rfl) rfl rfl rfl (fun _ _ _ h => h) (by exact op_loadN agg_34 rfl (by rfl) (fun w hw k u hk => (hw.bcell (i := 0) rfl).trans hk)) rfl hT ?_
 refine al_gstep (i := 8) rfl (by kernel_rfl) rfl rfl rfl (op_call_fr hS cf_19 rfl (just_Known_c _ _ hS.hold ETriv.mono _ _ atoms rs hA hR hP _ _ (anyP s) hN ⟨_, _, _, rfl⟩)) ?_
 clear hS
 rintro v29 w ⟨F29, G29, hR29, hF29, hf29, hl29, hS⟩
 replace hR29 := hR29.mono EInt.mono hf29
 replace hA := hA.mono ETriv.mono hl29
 replace hR := hR.mono ERule.mono hl29
 replace hs1 := hs1.mono EStep.mono hl29
 replace hh1 := hh1.mono EInt.mono hl29
 replace hN := hN.mono EStep.mono hl29
 replace hcur := hcur.trans hl29
 have hT := hT.back hS (by first | exact Le.refl _ | assumption) (fun x hx => by try simp only [List.take_succ_cons, List.take_zero, List.mem_cons, List.not_mem_nil, or_false] at hx; (rcases hx with rfl | rfl | rfl) <;> simp)
 refine ⟨fun _ _ => hT, ?_⟩
 refine al_gstep (i := 11) rfl (by kernel_rfl) rfl rfl rfl (op_call_fr hS cf_20 rfl (R21_Known_c _ _ hS.hold ETriv.mono _ _ atoms rs hA hR hP _ _ (anyP s) hN ⟨_, _, _, rfl⟩)) ?_
 clear hS
 rintro v32 w ⟨F32, G32, hR32, hF32, hf32, hl32, hS⟩
 replace hR32 := hR32.mono EInt.mono hf32
 replace hA := hA.mono ETriv.mono hl32
 replace hR := hR.mono ERule.mono hl32
 replace hs1 := hs1.mono EStep.mono hl32
 replace hh1 := hh1.mono EInt.mono hl32
 replace hN := hN.mono EStep.mono hl32
 replace hcur := hcur.trans hl32
 replace hR29 := hR29.mono EInt.mono hl32
 have hT := hT.back hS (by first | exact Le.refl _ | assumption) (fun x hx => by try simp only [List.take_succ_cons, List.take_zero, List.mem_cons, List.not_mem_nil, or_false] at hx; (rcases hx with rfl | rfl | rfl) <;> simp)
 refine ⟨fun _ _ => hT, ?_⟩
 refine al_gstep (i := 12) rfl (by kernel_rfl) rfl rfl rfl (op_call_sc hS cf_18 rfl (ints_t hS.hold hR29 hR32)) ?_
 clear hS
 rintro _ w ⟨rfl, hS⟩
 have hT := hT.back hS (by first | exact Le.refl _ | assumption) (fun x hx => by try simp only [List.take_succ_cons, List.take_zero, List.mem_cons, List.not_mem_nil, or_false] at hx; (rcases hx with rfl | rfl | rfl) <;> simp)
 refine ⟨fun _ _ => hT, ?_⟩
 refine al_gtake (i := 13) rfl (by kernel_rfl) (by kernel_rfl) (by kernel_rfl) rfl rfl rfl (fun _ _ _ h => h) (op_not rfl) rfl ?_
 refine al_take (i := 14) rfl (by kernel_rfl) (by kernel_rfl) (by kernel_rfl) rfl (fun _ _ _ h => h) (op_pick_f rfl rfl) rfl ?_
 refine al_take (i := 15) rfl (by kernel_rfl) (by kernel_rfl) (by kernel_rfl) rfl (fun _ _ _ h => h) (op_move rfl) rfl ?_
 refine al_gload (i := 16) rfl (by kernel_rfl) (by kernel_rfl) (by kernel_rfl) rfl rfl rfl (fun _ _ _ h => h) (by exact op_loadN agg_26 rfl (by rfl) (fun w hw k u hk => (hw.bcell (i := 2) rfl).trans hk)) rfl hT ?_
 refine al_gload (i := 17) rfl (by kernel_rfl) (by kernel_rfl) (by kernel_rfl) rfl rfl rfl (fun _ _ _ h => h) (by exact op_loadN agg_34 rfl (by rfl) (fun w hw k u hk => (hw.bcell (i := 1) rfl).trans hk)) rfl hT ?_
 refine al_gload (i := 19) rfl (by kernel_rfl) (by kernel_rfl) (by kernel_rfl) rfl rfl rfl (fun _ _ _ h => h) (by exact op_loadN agg_26 rfl (by rfl) (fun w hw k u hk => (hw.bcell (i := 2) rfl).trans hk)) rfl hT ?_
 refine al_gload (i := 20) rfl (by kernel_rfl) (by kernel_rfl) (by kernel_rfl) rfl rfl rfl (fun _ _ _ h => h) (by exact op_loadN agg_34 rfl (by rfl) (fun w hw k u hk => (hw.bcell (i := 1) rfl).trans hk)) rfl hT ?_
 refine al_gstep (i := 18) rfl (by kernel_rfl) rfl rfl rfl (op_call_fr hS cf_19 rfl (just_Known_c _ _ hS.hold ETriv.mono _ _ atoms rs hA hR hP _ _ (whyP atoms.length rs).1 hs1 ⟨_, _, _, rfl⟩)) ?_
 clear hS
 rintro v39 w ⟨F39, G39, hR39, hF39, hf39, hl39, hS⟩
 replace hR39 := hR39.mono EInt.mono hf39
 replace hA := hA.mono ETriv.mono hl39
 replace hR := hR.mono ERule.mono hl39
 replace hs1 := hs1.mono EStep.mono hl39
 replace hh1 := hh1.mono EInt.mono hl39
 replace hN := hN.mono EStep.mono hl39
 replace hcur := hcur.trans hl39
 have hT := hT.back hS (by first | exact Le.refl _ | assumption) (fun x hx => by try simp only [List.take_succ_cons, List.take_zero, List.mem_cons, List.not_mem_nil, or_false] at hx; (rcases hx with rfl | rfl | rfl) <;> simp)
 refine ⟨fun _ _ => hT, ?_⟩
 refine al_gstep (i := 21) rfl (by kernel_rfl) rfl rfl rfl (op_call_fr hS cf_20 rfl (R21_Known_c _ _ hS.hold ETriv.mono _ _ atoms rs hA hR hP _ _ (whyP atoms.length rs).1 hs1 ⟨_, _, _, rfl⟩)) ?_
 clear hS
 rintro v42 w ⟨F42, G42, hR42, hF42, hf42, hl42, hS⟩
 replace hR42 := hR42.mono EInt.mono hf42
 replace hA := hA.mono ETriv.mono hl42
 replace hR := hR.mono ERule.mono hl42
 replace hs1 := hs1.mono EStep.mono hl42
 replace hh1 := hh1.mono EInt.mono hl42
 replace hN := hN.mono EStep.mono hl42
 replace hcur := hcur.trans hl42
 replace hR39 := hR39.mono EInt.mono hl42
 have hT := hT.back hS (by first | exact Le.refl _ | assumption) (fun x hx => by try simp only [List.take_succ_cons, List.take_zero, List.mem_cons, List.not_mem_nil, or_false] at hx; (rcases hx with rfl | rfl | rfl) <;> simp)
 refine ⟨fun _ _ => hT, ?_⟩
 refine al_gstep (i := 22) rfl (by kernel_rfl) rfl rfl rfl (op_call_sc hS cf_18 rfl (ints_t hS.hold hR39 hR42)) ?_
 clear hS
 rintro _ w ⟨rfl, hS⟩
 have hT := hT.back hS (by first | exact Le.refl _ | assumption) (fun x hx => by try simp only [List.take_succ_cons, List.take_zero, List.mem_cons, List.not_mem_nil, or_false] at hx; (rcases hx with rfl | rfl | rfl) <;> simp)
 refine ⟨fun _ _ => hT, ?_⟩
 refine al_gtake (i := 23) rfl (by kernel_rfl) (by kernel_rfl) (by kernel_rfl) rfl rfl rfl (fun _ _ _ h => h) (op_not rfl) rfl ?_
 refine al_take (i := 24) rfl (by kernel_rfl) (by kernel_rfl) (by kernel_rfl) rfl (fun _ _ _ h => h) (op_pick_f rfl rfl) rfl ?_
 refine al_done (by kernel_rfl) ?_
 refine pq_then ?_
 refine cw_cond_f rfl ?_
 refine cw_skip ?_
 refine pq_then ?_
 refine cw_seq ?_
 refine cw_seq ?_
 refine cw_region ?_
 refine ol_pure rfl (op_assign rfl) ?_
 refine ol_nil ?_
 refine pq_then ?_
 refine cw_block ?_
 refine cw_loop (fun e w n => ∃ (kk : Nat) (Gk : GH), e = [(7, .bool true), (8, .pointer (some ⟨b8, 0, none⟩)), (9, .pointer (some ⟨b9, 0, none⟩)), (11, .int .i64 (kk - 1 : Int))] ∧ kk ≤ atoms.length + 2 ∧ n = atoms.length + 2 - kk ∧ Le G42 Gk ∧ SS G w0 Gk [.blk b10 34 [.slice oN (anyP s).length cN, .slice none 0 0], .blk b9 34 [.slice oS1 (whyP atoms.length rs).1.length cS1, .slice oH1 (whyP atoms.length rs).2.length cH1], .blk b8 26 [.slice oA atoms.length cA, .slice oR rs.length cR]] w) _ _ (by exact ⟨0, G42, rfl, Nat.zero_le _, rfl, Le.refl _, hS⟩) ((Sub.cons rfl (Sub.cons rfl (Sub.cons rfl (Sub.cons rfl Sub.nil))))) ?_
 clear hS
 rintro e w n ⟨kk, Gk, rfl, hkk, rfl, hlk, hS⟩
 refine cw_seq ?_
 refine cw_seq ?_
 refine cw_region ?_
 refine ol_pure rfl (op_move rfl) ?_
 refine ol_pure rfl (op_fieldAddr fld_26_0 rfl) ?_
 refine ol_load rfl (op_load1 one_24 rfl (fun w hw => (hw.bcell (i := 2) rfl).trans rfl)) hS ?_
 refine ol_pure rfl (op_len sl_24 rfl rfl) ?_
 refine ol_pure rfl (op_leq rfl rfl) ?_
 refine ol_nil ?_
 refine pq_then ?_
 refine cw_cond rfl (fun h50 => ?_) (fun h50 => ?_)
 ·
  skip
  try simp only [decide_eq_true_eq, decide_eq_false_iff_not, Bool.not_eq_true', Bool.not_eq_false', Bool.not_eq_eq_eq_not, Bool.not_true, Bool.not_false] at h50
  have hAk := hA.mono ETriv.mono hlk
  have hRk := hR.mono ERule.mono hlk
  have hs1k := hs1.mono EStep.mono hlk
  have hh1k := hh1.mono EInt.mono hlk
  have hNk := hN.mono EStep.mono hlk
  have hcur := Le.refl Gk
  refine cw_skip ?_
  refine pq_then ?_
  refine cw_seq ?_
  refine cw_block ?_
  refine cw_seq ?_
  refine al_start' hS (hS.take 3) (by kernel_rfl) rfl (fun w hS hT => ?_)
  refine al_load (i := 0) rfl (by kernel_rfl) (by kernel_rfl) (by kernel_rfl) rfl (fun _ _ _ h => h) (by exact op_loadN agg_26 rfl (by rfl) (fun w hw k u hk => (hw.bcell (i := 2) rfl).trans hk)) rfl hT ?_
  refine al_load (i := 1) rfl (by kernel_rfl) (by kernel_rfl) (by kernel_rfl) rfl (fun _ _ _ h => h) (by exact op_loadN agg_34 rfl (by rfl) (fun w hw k u hk => (hw.bcell (i := 1) rfl).trans hk)) rfl hT ?_
  refine al_take (i := 2) rfl (by kernel_rfl) (by kernel_rfl) (by kernel_rfl) rfl (fun _ _ _ h => h) (op_move rfl) rfl ?_
  refine al_load (i := 4) rfl (by kernel_rfl) (by kernel_rfl) (by kernel_rfl) rfl (fun _ _ _ h => h) (by exact op_loadN agg_26 rfl (by rfl) (fun w hw k u hk => (hw.bcell (i := 2) rfl).trans hk)) rfl hT ?_
  refine al_load (i := 5) rfl (by kernel_rfl) (by kernel_rfl) (by kernel_rfl) rfl (fun _ _ _ h => h) (by exact op_loadN agg_34 rfl (by rfl) (fun w hw k u hk => (hw.bcell (i := 1) rfl).trans hk)) rfl hT ?_
  refine al_take (i := 6) rfl (by kernel_rfl) (by kernel_rfl) (by kernel_rfl) rfl (fun _ _ _ h => h) (op_move rfl) rfl ?_
  refine al_step (i := 3) rfl (by kernel_rfl) rfl (op_call_rt hS cf_14 rfl (fun _ => .inr rfl) (whyMono) (just_For_c _ _ hS.hold ETriv.mono _ _ atoms rs hAk hRk hP _ _ _ _ hs1k hh1k hlo (by omega) (kk - 1 : Int))) ?_
  clear hS
  rintro v56 w ⟨G56, hl56, hR56, hS⟩
  obtain ⟨vs56, vh56, rfl, hs56, hh56⟩ := hR56
  replace hAk := hAk.mono ETriv.mono hl56
  replace hRk := hRk.mono ERule.mono hl56
  replace hs1k := hs1k.mono EStep.mono hl56
  replace hh1k := hh1k.mono EInt.mono hl56
  replace hNk := hNk.mono EStep.mono hl56
  replace hcur := hcur.trans hl56
  have hT := hT.back hS (by first | exact Le.refl _ | assumption) (fun x hx => by try simp only [List.take_succ_cons, List.take_zero, List.mem_cons, List.not_mem_nil, or_false] at hx; (rcases hx with rfl | rfl | rfl) <;> simp)
  refine ⟨fun _ _ => hT, ?_⟩
  refine al_step (i := 7) rfl (by kernel_rfl) rfl (op_call_rt hS cf_21 rfl (fun _ => .inr rfl) (whyMono) (R21_For_c _ _ hS.hold ETriv.mono _ _ atoms rs hAk hRk hP _ _ _ _ hs1k hh1k hlo (by omega) hng hsm (kk - 1 : Int))) ?_
  clear hS
  rintro v60 w ⟨G60, hl60, hR60, hS⟩
  obtain ⟨vs60, vh60, rfl, hs60, hh60⟩ := hR60
  replace hAk := hAk.mono ETriv.mono hl60
  replace hRk := hRk.mono ERule.mono hl60
  replace hs1k := hs1k.mono EStep.mono hl60
  replace hh1k := hh1k.mono EInt.mono hl60
  replace hNk := hNk.mono EStep.mono hl60
  replace hcur := hcur.trans hl60
  replace hs56 := hs56.mono EStep.mono hl60
  replace hh56 := hh56.mono EInt.mono hl60
  have hT := hT.back hS (by first | exact Le.refl _ | assumption) (fun x hx => by try simp only [List.take_succ_cons, List.take_zero, List.mem_cons, List.not_mem_nil, or_false] at hx; (rcases hx with rfl | rfl | rfl) <;> simp)
  refine ⟨fun _ _ => hT, ?_⟩
  refine al_step (i := 8) rfl (by kernel_rfl) rfl (op_call_sc hS cf_17 rfl (same_t hS.hold hs56 hh56 hs60 hh60)) ?_
  clear hS
  rintro _ w ⟨rfl, hS⟩
  have hT := hT.back hS (by first | exact Le.refl _ | assumption) (fun x hx => by try simp only [List.take_succ_cons, List.take_zero, List.mem_cons, List.not_mem_nil, or_false] at hx; (rcases hx with rfl | rfl | rfl) <;> simp)
  refine ⟨fun _ _ => hT, ?_⟩
  refine al_take (i := 9) rfl (by kernel_rfl) (by kernel_rfl) (by kernel_rfl) rfl (fun _ _ _ h => h) (op_not rfl) rfl ?_
  refine al_done (by kernel_rfl) ?_
  refine pq_then ?_
  refine cw_cond_f rfl ?_
  refine cw_skip ?_
  refine pq_in_normal ?_
  refine pq_then ?_
  refine cw_region ?_
  refine ol_pure rfl (op_move rfl) ?_
  refine ol_pure rfl (op_add rfl rfl (by omega) (by omega)) ?_
  refine ol_pure rfl (op_assign rfl) ?_
  refine ol_nil ?_
  refine pq_loop _ _ (by exact ⟨kk + 1, G60, by rw [show ((kk + 1 : Nat) : Int) - 1 = (kk : Int) - 1 + 1 from by omega], by omega, rfl, (hlk.trans hl56).trans hl60, hS⟩) ((Sub.cons rfl (Sub.cons rfl (Sub.cons rfl (Sub.cons rfl Sub.nil))))) (by omega)
 ·
  skip
  try simp only [decide_eq_true_eq, decide_eq_false_iff_not, Bool.not_eq_true', Bool.not_eq_false', Bool.not_eq_eq_eq_not, Bool.not_true, Bool.not_false] at h50
  refine cw_exit ?_
  refine pq_exit ?_
  refine pq_exit ?_
  refine pq_in_exit ?_
  refine pq_then ?_
  refine cw_seq ?_
  refine cw_region ?_
  refine ol_pure rfl (op_move rfl) ?_
  refine ol_pure rfl (op_assign rfl) ?_
  refine ol_nil ?_
  refine pq_then ?_
  refine cw_ret ?_
  refine ret1 rfl rfl ?_
  exact hS.sc_b rfl
end Go.Proofs.Ytmkgechdfimfnaa.K
