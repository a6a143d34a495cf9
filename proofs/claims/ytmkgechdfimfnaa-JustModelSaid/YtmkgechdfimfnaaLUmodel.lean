/-
  JustModel: its walk.
  No condition but the premises that each theorem names.
-/
import Derived.Test.YtmkgechdfimfnaaLJhead
import Derived.Test.YtmkgechdfimfnaaPlq
import Derived.Test.YtmkgechdfimfnaaJwhy
namespace Go.Proofs.Ytmkgechdfimfnaa.K
open Go Go.RowKit
set_option linter.unusedVariables false
set_option linter.unusedSimpArgs false

open Pl

set_option maxRecDepth 100000 in
set_option maxHeartbeats 4000000 in

theorem L21_JustModel_c (G : GH) (w0 : World) (hG : Holds G w0) (v : Value) (l : List Rule) (h1 : RSl 3 ERule G v l) (z : Int) (hz : 0 ≤ z ∧ z ≤ 255)  :
    Calls Try.prog 5 #[v, .int .u8 z] w0 (Sc w0 (.bool true)) := by
  refine enter Try.func5 rfl (N := 21) rfl (Nat.le_of_ble_eq_true rfl) ?_
  have hS := SS.init hG
  refine cw_seq ?_
  refine cw_region ?_
  -- r0.0 t4 := assign  Cfalse
  refine ol_pure rfl (op_assign rfl) ?_
  refine ol_nil ?_
  refine pq_then ?_
  refine cw_seq ?_
  refine cw_region ?_
  -- r1.0 t7 := call f10 
  refine ol_step rfl (op_call_sc hS cf_10 rfl (L21_head_c G _ hS.hold)) ?_
  clear hS
  rintro _ w ⟨rfl, hS⟩
  -- r1.1 t5 := assign  t7
  refine ol_pure rfl (op_assign rfl) ?_
  refine ol_nil ?_
  refine pq_then ?_
  refine cw_seq ?_
  refine cw_region ?_
  -- r2.0 t8 := move  t0
  refine ol_pure rfl (op_move rfl) ?_
  -- r2.1 t9 := move  t1
  refine ol_pure rfl (op_move rfl) ?_
  -- r2.2 t10 := call f11 t8 t9
  refine ol_step rfl (op_call_rt hS cf_11 rfl (fun _ => .inr rfl) (madeMono ETriv.mono) (R18_Made_c _ _ hS.hold v l h1 z hz)) ?_
  clear hS
  rintro v10 w ⟨Gm, hl10, hR10, hS⟩
  obtain ⟨va, vr, rfl, hA, hR⟩ := hR10
  have hmr := madeN_range z
  have hok := madeR_ok l hmr.1 hmr.2
  obtain ⟨atoms, hat⟩ : ∃ atoms : List Unit, atoms = List.replicate (madeN z) () := ⟨_, rfl⟩
  have hal : atoms.length = madeN z := by rw [hat]; simp
  rw [← hat] at hA
  have hP : PrOk atoms.length (madeR l (madeN z)) := by rw [hal]; exact hok.1
  have hNg := hok.2
  rw [← hal] at hmr
  clear hok hal hat
  generalize madeR l (madeN z) = rs at hR hP hNg
  obtain ⟨oA, cA, rfl, _, _⟩ := hA.elim
  obtain ⟨oR, cR, rfl, _, _⟩ := hR.elim
  have hwr := why_runs hP
  have hPn := hP.n_le
  have hPm := hP.m_le
  have hsl := hwr.1.len
  have hlo := hwr.1.lean hP
  have hsm : ∀ s ∈ (whyP atoms.length rs).1, s.atoms.length ≤ 1000 := fun s hs => by have := hwr.1.small s hs; omega
  have hng : ∀ r ∈ rs, r.neg.length ≤ 1000 := fun r hr => by have := (hNg r hr).2; omega
  
  -- r2.3 t6 := alloc [26] 
  refine ol_step rfl (op_alloc hS el_26 rfl) ?_
  clear hS
  rintro _ w ⟨b6, rfl, hS⟩
  -- r2.4 _ := store [26] t6 t10
  refine ol_step0  (op_storeN (j := 0) hS sz_26 rfl rfl rfl rfl rfl (by simp [Value.oneCell'])) ?_
  clear hS
  rintro _ w hS; (try simp only [List.nil_append, List.cons_append, List.set] at hS)
  refine ol_nil ?_
  refine pq_then ?_
  refine cw_seq ?_
  refine al_start' hS (hS.take 1) (by kernel_rfl) rfl (fun w hS hT => ?_)
  -- r3.0 t11 := load [26] t6
  refine al_load (i := 0) rfl (by kernel_rfl) (by kernel_rfl) (by kernel_rfl) rfl (fun _ _ _ h => h) (by exact op_loadN agg_26 rfl (by rfl) (fun w hw k u hk => (hw.bcell (i := 0) rfl).trans hk)) rfl hT ?_
  -- r3.1 t12 := load [26] t6
  refine al_load (i := 1) rfl (by kernel_rfl) (by kernel_rfl) (by kernel_rfl) rfl (fun _ _ _ h => h) (by exact op_loadN agg_26 rfl (by rfl) (fun w hw k u hk => (hw.bcell (i := 0) rfl).trans hk)) rfl hT ?_
  -- r3.4 t15 := load [26] t6
  refine al_load (i := 4) rfl (by kernel_rfl) (by kernel_rfl) (by kernel_rfl) rfl (fun _ _ _ h => h) (by exact op_loadN agg_26 rfl (by rfl) (fun w hw k u hk => (hw.bcell (i := 0) rfl).trans hk)) rfl hT ?_
  refine al_step (i := 2) rfl (by kernel_rfl) rfl (op_call_rt hS cf_13 rfl (fun _ => .inr rfl) (whyMono) (just_Why_c _ _ hS.hold ETriv.mono _ _ atoms rs hA hR hP)) ?_
  clear hS
  rintro v13 w ⟨Gw, hl13, hR13, hS⟩
  obtain ⟨vs1, vh1, rfl, hs1, hh1⟩ := hR13
  obtain ⟨oS1, cS1, rfl, _, _⟩ := hs1.elim
  obtain ⟨oH1, cH1, rfl, _, _⟩ := hh1.elim
  replace hA := hA.mono ETriv.mono hl13
  replace hR := hR.mono ERule.mono hl13
  have hT := hT.back hS (by first | exact Le.refl _ | assumption) (fun x hx => by try simp only [List.take_succ_cons, List.take_zero, List.mem_cons, List.not_mem_nil, or_false] at hx; (rcases hx with rfl) <;> simp)
  refine ⟨fun _ _ => hT, ?_⟩
  refine al_step (i := 3) rfl (by kernel_rfl) rfl (op_call_fr hS cf_19 rfl (just_Known_c _ _ hS.hold ETriv.mono _ _ atoms rs hA hR hP _ _ (whyP atoms.length rs).1 hs1 ⟨_, _, _, rfl⟩)) ?_
  clear hS
  rintro v14 w ⟨F14, Gk, hR14, hF14, hf14, hl14, hS⟩
  replace hR14 := hR14.mono EInt.mono hf14
  have hc1 := hl13.trans hl14
  replace hA := hA.mono ETriv.mono hl14
  replace hR := hR.mono ERule.mono hl14
  replace hs1 := hs1.mono EStep.mono hl14
  replace hh1 := hh1.mono EInt.mono hl14
  have hT := hT.back hS (by first | exact Le.refl _ | assumption) (fun x hx => by try simp only [List.take_succ_cons, List.take_zero, List.mem_cons, List.not_mem_nil, or_false] at hx; (rcases hx with rfl) <;> simp)
  refine ⟨fun _ _ => hT, ?_⟩
  refine al_step (i := 5) rfl (by kernel_rfl) rfl (op_call_fr hS cf_22 rfl (R17_Model_c _ _ hS.hold ETriv.mono _ _ atoms rs hA hR hP)) ?_
  clear hS
  rintro v16 w ⟨F16, Gn, hR16, hF16, hf16, hl16, hS⟩
  replace hR16 := hR16.mono EInt.mono hf16
  replace hR14 := hR14.mono EInt.mono hl16
  have hc2 := hc1.trans hl16
  have hT := hT.back hS (by first | exact Le.refl _ | assumption) (fun x hx => by try simp only [List.take_succ_cons, List.take_zero, List.mem_cons, List.not_mem_nil, or_false] at hx; (rcases hx with rfl) <;> simp)
  refine ⟨fun _ _ => hT, ?_⟩
  refine al_step (i := 6) rfl (by kernel_rfl) rfl (op_call_sc hS cf_18 rfl (R21_Ints_c _ _ hS.hold _ _ _ _ hR14 hR16)) ?_
  clear hS
  rintro _ w ⟨rfl, hS⟩
  have hT := hT.back hS (by first | exact Le.refl _ | assumption) (fun x hx => by try simp only [List.take_succ_cons, List.take_zero, List.mem_cons, List.not_mem_nil, or_false] at hx; (rcases hx with rfl) <;> simp)
  refine ⟨fun _ _ => hT, ?_⟩
  -- r3.7 t18 := move  t17
  refine al_take (i := 7) rfl (by kernel_rfl) (by kernel_rfl) (by kernel_rfl) rfl (fun _ _ _ h => h) (op_move rfl) rfl ?_
  refine al_split (fun h18 => ?_) (fun h18 => ?_)
  · skip
    try simp only [decide_eq_true_eq, decide_eq_false_iff_not, Bool.not_eq_true', Bool.not_eq_false', Bool.not_eq_eq_eq_not, Bool.not_true, Bool.not_false] at h18
    -- r3.8 t19 := move  t5 ?7=True
    refine al_gtake (i := 8) rfl (by kernel_rfl) (by kernel_rfl) (by kernel_rfl) rfl rfl rfl (fun _ _ _ h => h) (op_move rfl) rfl ?_
    -- r3.9 t20 := pick  t18 t19 Cfalse
    refine al_take (i := 9) rfl (by kernel_rfl) (by kernel_rfl) (by kernel_rfl) rfl (fun _ _ _ h => h) (op_pick_t rfl rfl) rfl ?_
    -- r3.10 t4 := assign  t20
    refine al_take (i := 10) rfl (by kernel_rfl) (by kernel_rfl) (by kernel_rfl) rfl (fun _ _ _ h => h) (op_assign rfl) rfl ?_
    refine al_done (by kernel_rfl) ?_
    refine pq_then ?_
    refine cw_ret ?_
    refine ret1 rfl rfl ?_
    -- ret1 h18t
    exact hS.sc_b rfl
  · skip
    try simp only [decide_eq_true_eq, decide_eq_false_iff_not, Bool.not_eq_true', Bool.not_eq_false', Bool.not_eq_eq_eq_not, Bool.not_true, Bool.not_false] at h18
    refine al_gskip (i := 8) rfl (by kernel_rfl) (by kernel_rfl) (by kernel_rfl) rfl rfl rfl rfl (fun _ _ _ h => h) (fun _ => hT) ?_
    -- r3.9 t20 := pick  t18 t19 Cfalse
    refine al_take (i := 9) rfl (by kernel_rfl) (by kernel_rfl) (by kernel_rfl) rfl (fun _ _ _ h => h) (op_pick_f rfl rfl) rfl ?_
    -- r3.10 t4 := assign  t20
    refine al_take (i := 10) rfl (by kernel_rfl) (by kernel_rfl) (by kernel_rfl) rfl (fun _ _ _ h => h) (op_assign rfl) rfl ?_
    refine al_done (by kernel_rfl) ?_
    refine pq_then ?_
    refine cw_ret ?_
    refine ret1 rfl rfl ?_
    -- ret1 h18f
    rw [hwr.2] at h18
    simp at h18
end Go.Proofs.Ytmkgechdfimfnaa.K
