/-
  GcNone: its walk.
  No condition but the premises that each theorem names.
-/
import Derived.Test.YtnmkffkalnkbbaaGcom
namespace Go.Proofs.Ytnmkffkalnkbbaa.K
open Go Go.RowKit
set_option linter.unusedVariables false
set_option linter.unusedSimpArgs false

open Pl
def evI (n : Nat) : List Int := (List.range n).map fun (i : Nat) => (i : Int)
theorem evI_succ (n : Nat) : evI (n + 1) = evI n ++ [(n : Int)] := by simp [evI, List.range_succ]
theorem evI_len (n : Nat) : (evI n).length = n := by simp [evI]
theorem evI_mem {n : Nat} {x : Int} : x ∈ evI n ↔ 0 ≤ x ∧ x < n := by
  unfold evI
  rw [List.mem_map]
  constructor
  · rintro ⟨i, hi, rfl⟩
    rw [List.mem_range] at hi
    omega
  · intro h
    exact ⟨x.toNat, List.mem_range.2 (by omega), by omega⟩
theorem none_x {cs : List Cell} {tr : List Int} (hok : HpOk cs tr) : cellsM (movedI (liveB cs (allI [] []))) cs = [] ∧ trailM (movedI (liveB cs (allI [] []))) tr = [] := by
  have hl := live_nil cs hok.slots.ok
  constructor
  · apply List.eq_nil_of_length_eq_zero
    have h1 := len_col (cs := cs) (roots := [])
    have h2 := cntB_rep cs.length cs.length false (Nat.le_refl _)
    rw [List.take_of_length_le (by simp)] at h2
    rw [hl, h2] at h1
    exact h1
  · apply List.eq_nil_iff_forall_not_mem.2
    intro x hx
    obtain ⟨p, hp, _⟩ := trail_mem (roots := []) hok.range hx
    unfold Lv at hp
    rw [hl, atB_nat] at hp
    by_cases h : p < cs.length <;> simp [h] at hp
theorem all_x {cs : List Cell} {tr : List Int} (hok : HpOk cs tr) : cellsM (movedI (liveB cs (allI (evI cs.length) []))) cs = cs ∧ trailM (movedI (liveB cs (allI (evI cs.length) []))) tr = tr ∧ toI (movedI (liveB cs (allI (evI cs.length) []))) (evI cs.length) = evI cs.length := by
  have hl : liveB cs (allI (evI cs.length) []) = List.replicate cs.length true := live_all fun p hp => Lv.root hok.slots.ok hp (allI_mem.2 (.inl (evI_mem.2 (by omega))))
  exact ⟨col_id hok.slots.ok hl, trail_id hl hok.range, to_id hl fun x hx => .inr (evI_mem.1 hx)⟩
theorem one_x {cs : List Cell} (hs : ShOk cs) {p : Nat} (hp : p < cs.length) : (cellsM (movedI (liveB cs (allI [(p : Int), (p : Int)] []))) cs).length = cntB (liveB cs [(p : Int)]) ∧ ∃ v : Int, (0 ≤ v ∧ v < cs.length) ∧ toI (movedI (liveB cs (allI [(p : Int), (p : Int)] []))) [(p : Int), (p : Int)] = [v, v] := by
  have he : liveB cs (allI [(p : Int), (p : Int)] []) = liveB cs [(p : Int)] := liveB_ext hs fun a ha => by simp [allI]
  rw [he]
  refine ⟨len_col, valI (toC cs [(p : Int)]) p, ?_, ?_⟩
  · have hl : Lv cs [(p : Int)] p := Lv.root hs hp (by simp)
    have h1 := (rn_col hs [(p : Int)]).range2 hl
    have h2 := len_col_le (cs := cs) (roots := [(p : Int)])
    omega
  · unfold toI
    rw [List.map_cons, List.map_cons, List.map_nil, if_pos ⟨by omega, by rw [movedI_len, liveB_len]; omega⟩]
    rfl
theorem wrap_u16 {a : Int} (h : 0 ≤ a ∧ a ≤ 65535) : IntKind.i64.wrap a = a := by
  simp [IntKind.wrap, IntKind.signed, IntKind.bits]
  omega

set_option maxRecDepth 100000 in
set_option maxHeartbeats 4000000 in

theorem L09_GcNone_c (G : GH) (w0 : World) (hG : Holds G w0) (v : Value) (l : List (Int × List Cell × Int × Int)) (h1 : RSl 4 EOp G v l) (a : Int) (ha : 0 ≤ a ∧ a ≤ 65535)  :
   Calls Try.prog 10 #[v, .int .u16 a] w0 (Sc w0 (.bool true)) := by
 refine enter Try.func10 rfl (N := 144) rfl (Nat.le_of_ble_eq_true rfl) ?_
 have hS := SS.init hG
 refine cw_seq (cw_region (ol_pure rfl (op_assign rfl) (ol_nil (pq_then (cw_seq (cw_region ?_))))))
 refine ol_step rfl (op_call_sc hS cf_11 rfl (L09_head_c G _ hS.hold)) ?_
 clear hS
 rintro _ w ⟨rfl, hS⟩
 refine ol_pure rfl (op_assign rfl) (ol_nil (pq_then (cw_seq (cw_region (ol_pure rfl (op_move rfl) ?_)))))
 refine ol_step rfl (op_call_rt hS cf_12 rfl (fun _ => .inr rfl) (fun _ _ _ hl ⟨cs, tr, ats, ms, vars, h1, h2⟩ => ⟨cs, tr, ats, ms, vars, h1.mono hl, h2⟩) (R09_Made_c _ _ hS.hold v l h1)) ?_
 clear hS
 rintro v24 w ⟨Gm, hl24, hR24, hS⟩
 obtain ⟨cs, tr, ats, ms, vars, ⟨oc, cc, ot, ct, oA, cA, oM, cM, rfl, hC, hTr, hA, hM⟩, hMd⟩ := hR24
 have hok := hMd.ok
 have hsh := hok.slots.ok
 have hn4 := hMd.few
 have htl := hok.trl
 have hal := hMd.atl
 have hml := hMd.msl
 have hn6 : cs.length ≤ 1000000 := by omega
 have hmr : ∀ m ∈ ms, m.roots.length ≤ 1000 := fun m hm => by have := (hMd.mks m hm).2.1; omega
 have hmk : ∀ m ∈ ms, MkOk cs.length tr.length m := fun m hm => (hMd.mks m hm).1
 have hmin : ∀ m ∈ ms, ∀ x ∈ m.roots, 0 ≤ x ∧ x < cs.length := fun m hm x hx => by
   have h1 := (hMd.mks m hm).2.2.1 x hx
   have h2 := hmk m hm
   unfold MkOk at h2
   omega
 refine ol_step rfl (op_alloc hS el_31 rfl) ?_
 clear hS
 rintro _ w ⟨b6, rfl, hS⟩
 refine ol_step0  (op_storeN (j := 0) hS sz_31 rfl rfl rfl rfl rfl (by simp [Value.oneCell'])) ?_
 clear hS
 rintro _ w hS; (try simp only [List.nil_append, List.cons_append, List.set] at hS)
 refine ol_nil (pq_then (cw_seq (cw_region ?_)))
 refine ol_step rfl (op_buildSlice (el := 3) (is := []) (xs := []) (sz := 1) (cs := []) hS rfl rfl (fun w => by kernel_rfl) rfl (by decide)) ?_
 clear hS
 rintro _ w ⟨ev, rfl, hS⟩
 refine ol_pure rfl (op_assign rfl) (ol_nil (pq_then (cw_seq (cw_seq (cw_region (ol_pure rfl (op_assign rfl) (ol_nil ?_)))))))
 refine pq_then (cw_block ?_)
 refine cw_loop (fun e w n => ∃ (k : Nat) (oE : Option Addr) (cE : Nat), e = [(1, .int .u16 a), (5, .bool true), (6, .pointer (some ⟨b6, 0, none⟩)), (7, .slice oE k cE), (8, .int .i64 (k : Nat))] ∧ k ≤ cs.length ∧ n = cs.length - k ∧ SS G w0 Gm [.row oE k cE 3 1 ((evI k).map (Value.int .i64)), .blk b6 31 [.slice oc cs.length cc, .slice ot tr.length ct, .int .i64 400, .slice oA ats.length cA, .slice oM ms.length cM]] w) _ _ (by exact ⟨0, ev, _, rfl, Nat.zero_le _, rfl, hS⟩) ((Sub.cons rfl (Sub.cons rfl (Sub.cons rfl (Sub.cons rfl (Sub.cons rfl Sub.nil)))))) ?_
 clear hS
 rintro e w n ⟨k, oE, cE, rfl, hk, rfl, hS⟩
 refine cw_seq (cw_seq (cw_region (ol_pure rfl (op_move rfl) (ol_pure rfl (op_fieldAddr fld_31_0 rfl) (ol_pure rfl (op_fieldAddr2 (o := 0) (q := 0) fld_28_0 rfl (by decide)) (ol_load rfl (op_load1 one_25 rfl (fun w hw => (hw.bcell (i := 1) rfl).trans rfl)) hS (ol_pure rfl (op_len sl_25 rfl rfl) ?_)))))))
 refine ol_pure rfl (op_lss rfl rfl) (ol_nil (pq_then ?_))
 refine cw_cond rfl (fun h31 => ?_) (fun h31 => ?_)
 ·
  try simp only [dqT, dqF, dq1, dq2, dq3, dq4, dq5] at h31
  refine cw_skip (pq_then (cw_seq (cw_block (cw_region (ol_pure rfl (op_move rfl) (ol_pure rfl (op_move rfl) ?_))))))
  refine ol_step rfl (op_buildSlice (el := 3) (is := [0]) (xs := [.tmp 35]) (sz := 1) (cs := [.int .i64 (k : Nat)]) hS rfl rfl (fun w => by kernel_rfl) rfl (by decide)) ?_
  clear hS
  rintro _ w ⟨s36, rfl, hS⟩
  refine ol_step rfl (op_append (j := 1) hS sl_26 el_3 rfl rfl rfl rfl rfl rfl (by decide) (hS.news (j := 0) rfl) (by simp [Value.oneCell']) (by omega) (by unfold maxLen; omega)) ?_
  clear hS
  rintro _ w ⟨oq, c_oq, rfl, hS⟩; (try simp only [List.nil_append, List.cons_append, List.set] at hS); replace hS := SS.drop [] hS; (try simp only [List.nil_append, List.cons_append] at hS)
  refine ol_pure rfl (op_assign rfl) (ol_nil (pq_in_normal (pq_then (cw_region (ol_pure rfl (op_move rfl) (ol_pure rfl (op_add rfl rfl (by omega) (by omega)) (ol_pure rfl (op_assign rfl) ?_)))))))
  refine ol_nil ?_
  refine pq_loop _ _ (by exact ⟨k + 1, oq, c_oq, rfl, by omega, rfl, by rw [evI_succ, List.map_append]; exact hS⟩) ((Sub.cons rfl (Sub.cons rfl (Sub.cons rfl (Sub.cons rfl (Sub.cons rfl Sub.nil)))))) (by omega)
 ·
  try simp only [dqT, dqF, dq1, dq2, dq3, dq4, dq5] at h31
  refine cw_exit (pq_exit (pq_exit (pq_in_exit (pq_then (cw_seq ?_)))))
  obtain rfl : k = cs.length := by omega
  obtain ⟨Ge, hle9, hSe, hE⟩ := SS.give' (evI cs.length) [] EInt.mono hS (by decide) ((Rows.ints (fun x hx => by have := evI_mem.1 hx; omega)).mono EInt.mono (fun b o hb => by cases hb)) (evI_len _).symm
  clear hS
  have hS := hSe
  clear hSe
  simp only [List.nil_append] at hS
  replace hC := hC.mono ECell.mono hle9
  replace hTr := hTr.mono EInt.mono hle9
  replace hA := hA.mono EInt.mono hle9
  replace hM := hM.mono EMk.mono hle9
  (try replace hcur := hcur.trans hle9)
  refine cw_region (ol_pure rfl (op_fieldAddr fld_31_0 rfl) (ol_load rfl (op_loadBS (i := 0) (o := 0) (vs := [.slice oc cs.length cc, .slice ot tr.length ct, .int .i64 400]) agg_28 rfl rfl rfl rfl) hS ?_))
  refine ol_step rfl (op_call_rt hS cf_16 rfl (fun _ => .inl rfl) (ColR.mono) (gc_Collect_c _ _ hS.hold _ cs tr 400 (heap_ hC hTr) hsh hn6 _ [] (RSl.nil _) _ [] (RSl.nil _) (by simp) (by simp) (by simp) (by simp) (by omega) (by omega) (by omega))) ?_
  clear hS
  rintro v41 w ⟨G41, hl41, hR41, hS⟩
  obtain ⟨oca, cca, ota, cta, oRa, cRa, oMa, cMa, rfl, hCa, hTa, hRa, hMa⟩ := colX hR41 (none_x hok).1 (none_x hok).2 rfl rfl
  replace hC := hC.mono ECell.mono hl41
  replace hTr := hTr.mono EInt.mono hl41
  replace hA := hA.mono EInt.mono hl41
  replace hM := hM.mono EMk.mono hl41
  replace hE := hE.mono EInt.mono hl41
  (try replace hcur := hcur.trans hl41)
  refine ol_pure rfl (op_move rfl) (ol_pure rfl (op_extract (vs := [.agg #[.slice oca 0 cca, .slice ota 0 cta, .int .i64 400], .slice oRa 0 cRa, .slice oMa 0 cMa]) rfl rfl) (ol_pure rfl (op_extract (vs := [.agg #[.slice oca 0 cca, .slice ota 0 cta, .int .i64 400], .slice oRa 0 cRa, .slice oMa 0 cMa]) rfl rfl) (ol_pure rfl (op_extract (vs := [.agg #[.slice oca 0 cca, .slice ota 0 cta, .int .i64 400], .slice oRa 0 cRa, .slice oMa 0 cMa]) rfl rfl) ?_)))
  refine ol_step rfl (op_alloc hS el_28 rfl) ?_
  clear hS
  rintro _ w ⟨b9, rfl, hS⟩
  refine ol_step0  (op_storeN (j := 0) hS sz_28 rfl rfl rfl rfl rfl (by simp [Value.oneCell'])) ?_
  clear hS
  rintro _ w hS; (try simp only [List.nil_append, List.cons_append, List.set] at hS)
  refine ol_pure rfl (op_assign rfl) (ol_pure rfl (op_assign rfl) (ol_nil (pq_then (cw_seq (cw_region (ol_pure rfl (op_fieldAddr fld_31_0 rfl) (ol_load rfl (op_loadBS (i := 1) (o := 0) (vs := [.slice oc cs.length cc, .slice ot tr.length ct, .int .i64 400]) agg_28 rfl rfl rfl rfl) hS ?_)))))))
  refine ol_pure rfl (op_move rfl) ?_
  refine ol_step rfl (op_call_rt hS cf_16 rfl (fun _ => .inl rfl) (ColR.mono) (gc_Collect_c _ _ hS.hold _ cs tr 400 (heap_ hC hTr) hsh hn6 _ (evI cs.length) hE _ [] (RSl.nil _) (by rw [evI_len]; omega) (by simp) (by simp) (by simp) (by omega) (by omega) (by omega))) ?_
  clear hS
  rintro v49 w ⟨G49, hl49, hR49, hS⟩
  obtain ⟨ocb, ccb, otb, ctb, oRb, cRb, oMb, cMb, rfl, hCb, hTb, hRb, hMb⟩ := colX hR49 (all_x hok).1 (all_x hok).2.1 (all_x hok).2.2 rfl
  replace hC := hC.mono ECell.mono hl49
  replace hTr := hTr.mono EInt.mono hl49
  replace hA := hA.mono EInt.mono hl49
  replace hM := hM.mono EMk.mono hl49
  replace hE := hE.mono EInt.mono hl49
  (try replace hcur := hcur.trans hl49)
  refine ol_pure rfl (op_move rfl) (ol_pure rfl (op_extract (vs := [.agg #[.slice ocb cs.length ccb, .slice otb tr.length ctb, .int .i64 400], .slice oRb (evI cs.length).length cRb, .slice oMb 0 cMb]) rfl rfl) (ol_pure rfl (op_extract (vs := [.agg #[.slice ocb cs.length ccb, .slice otb tr.length ctb, .int .i64 400], .slice oRb (evI cs.length).length cRb, .slice oMb 0 cMb]) rfl rfl) (ol_pure rfl (op_extract (vs := [.agg #[.slice ocb cs.length ccb, .slice otb tr.length ctb, .int .i64 400], .slice oRb (evI cs.length).length cRb, .slice oMb 0 cMb]) rfl rfl) ?_)))
  refine ol_step rfl (op_alloc hS el_28 rfl) ?_
  clear hS
  rintro _ w ⟨b12, rfl, hS⟩
  refine ol_step0  (op_storeN (j := 0) hS sz_28 rfl rfl rfl rfl rfl (by simp [Value.oneCell'])) ?_
  clear hS
  rintro _ w hS; (try simp only [List.nil_append, List.cons_append, List.set] at hS)
  refine ol_pure rfl (op_assign rfl) (ol_pure rfl (op_assign rfl) (ol_nil (pq_then (cw_seq (cw_seq (cw_region (ol_pure rfl (op_fieldAddr fld_28_0 rfl) ?_)))))))
  refine ol_load rfl (op_load1 one_25 rfl (fun w hw => (hw.bcell (i := 1) rfl).trans rfl)) hS (ol_pure rfl (op_len sl_25 rfl rfl) (ol_pure rfl (op_neqF rfl rfl (rfl)) (ol_pure rfl (op_move rfl) (ol_guard_pure rfl rfl rfl (op_fieldAddr fld_28_1 rfl) (ol_guard_load rfl rfl rfl (op_load1 one_26 rfl (fun w hw => (hw.bcell (i := 1) rfl).trans rfl)) hS (ol_guard_pure rfl rfl rfl (op_len sl_26 rfl rfl) (ol_guard_pure rfl rfl rfl (op_neqF rfl rfl (rfl)) ?_)))))))
  refine ol_pure rfl (op_pick_f rfl rfl) (ol_pure rfl (op_move rfl) (ol_guard_pure rfl rfl rfl (op_move rfl) (ol_guard_pure rfl rfl rfl (op_len sl_26 rfl rfl) (ol_guard_pure rfl rfl rfl (op_neqF rfl rfl (rfl)) (ol_pure rfl (op_pick_f rfl rfl) (ol_pure rfl (op_move rfl) (ol_guard_load rfl rfl rfl (op_loadN agg_28 rfl (by rfl) (fun w hw k u hk => (hw.bcell (i := 0) rfl).trans hk)) hS ?_)))))))
  refine ol_guard_pure rfl rfl rfl (op_fieldAddr fld_31_0 rfl) (ol_guard_load rfl rfl rfl (op_loadBS (i := 2) (o := 0) (vs := [.slice oc cs.length cc, .slice ot tr.length ct, .int .i64 400]) agg_28 rfl rfl rfl rfl) hS ?_)
  refine ol_guard_step rfl rfl rfl (op_call_sc hS cf_18 rfl (R08_Same_c _ _ hS.hold _ _ cs cs tr tr 400 400 (heap_ hCb hTb) (heap_ hC hTr) rfl rfl rfl)) ?_
  clear hS
  rintro _ w ⟨rfl, hS⟩
  refine ol_guard_pure rfl rfl rfl (op_not rfl) (ol_pure rfl (op_pick_f rfl rfl) (ol_pure rfl (op_move rfl) (ol_guard_pure rfl rfl rfl (op_move rfl) (ol_guard_pure rfl rfl rfl (op_move rfl) ?_))))
  refine ol_guard_step rfl rfl rfl (op_call_sc hS cf_19 rfl (ints_t hS.hold hRb hE)) ?_
  clear hS
  rintro _ w ⟨rfl, hS⟩
  refine ol_guard_pure rfl rfl rfl (op_not rfl) (ol_pure rfl (op_pick_f rfl rfl) (ol_nil (pq_then (cw_cond_f rfl (cw_skip (pq_then (cw_seq ?_)))))))
  refine cw_seq (cw_region (ol_pure rfl (op_move rfl) (ol_pure rfl (op_len sl_26 rfl rfl) (ol_pure rfl (op_eql rfl rfl) (ol_nil (pq_then ?_))))))
  refine cw_cond rfl (fun h83 => ?_) (fun h83 => ?_)
  ·
   try simp only [dqT, dqF, dq1, dq2, dq3, dq4, dq5] at h83
   refine cw_seq (cw_region (ol_pure rfl (op_move rfl) (ol_pure rfl (op_assign rfl) (ol_nil (pq_then (cw_ret (pq_ret ?_)))))))
   refine ret1 rfl rfl ?_
   exact hS.sc_b rfl
  ·
   try simp only [dqT, dqF, dq1, dq2, dq3, dq4, dq5] at h83
   obtain ⟨p, hpe, hp⟩ := mod_nat (a := a) (n := cs.length) ha.1 (by omega)
   obtain ⟨x1, v, hv, x3⟩ := one_x hsh hp
   refine cw_skip (pq_then (cw_seq (cw_region (ol_pure rfl (op_move rfl) (ol_pure rfl (op_conv ⟨_, Try.underlying54⟩ Try.underlying3 rfl (by exact wrap_u16 ha)) (ol_pure rfl (op_move rfl) (ol_pure rfl (op_len sl_26 rfl rfl) ?_)))))))
   refine ol_pure rfl (op_val (v' := .int .i64 (p : Nat)) (op_rem rfl rfl (by omega) (by omega)) (by rw [hpe])) (ol_pure rfl (op_assign rfl) (ol_nil (pq_then (cw_seq (cw_region (ol_pure rfl (op_fieldAddr fld_31_0 rfl) (ol_load rfl (op_loadBS (i := 2) (o := 0) (vs := [.slice oc cs.length cc, .slice ot tr.length ct, .int .i64 400]) agg_28 rfl rfl rfl rfl) hS ?_)))))))
   refine ol_pure rfl (op_move rfl) ?_
   refine ol_step rfl (op_call_fr hS cf_27 rfl (R08_Reach_c _ _ hS.hold _ cs tr 400 (heap_ hC hTr) p hp hsh hn6)) ?_
   clear hS
   rintro v93 w ⟨F93, G93, hR93, hF93, hf93, hl93, hS⟩
   obtain ⟨oL, cL, rfl, _, _⟩ := hR93.elimN (n := cs.length) (liveB_len _ _)
   have hL := hR93.mono EBool.mono hf93
   replace hC := hC.mono ECell.mono hl93
   replace hTr := hTr.mono EInt.mono hl93
   replace hA := hA.mono EInt.mono hl93
   replace hM := hM.mono EMk.mono hl93
   (try replace hcur := hcur.trans hl93)
   refine ol_pure rfl (op_assign rfl) (ol_pure rfl (op_assign rfl) (ol_nil (pq_then (cw_seq (cw_region (ol_pure rfl (op_fieldAddr fld_31_0 rfl) (ol_load rfl (op_loadBS (i := 2) (o := 0) (vs := [.slice oc cs.length cc, .slice ot tr.length ct, .int .i64 400]) agg_28 rfl rfl rfl rfl) hS ?_)))))))
   refine ol_pure rfl (op_move rfl) (ol_pure rfl (op_move rfl) ?_)
   refine ol_step rfl (op_buildSlice (el := 3) (is := [0, 1]) (xs := [.tmp 97, .tmp 98]) (sz := 1) (cs := [.int .i64 (p : Nat), .int .i64 (p : Nat)]) hS rfl rfl (fun w => by kernel_rfl) rfl (by decide)) ?_
   clear hS
   rintro _ w ⟨s99, rfl, hS⟩
   obtain ⟨G99, hl99, hS99, hP⟩ := SS.give' [(p : Int), (p : Int)] [] EInt.mono hS (by decide) ((Rows.ints (l := [(p : Int), (p : Int)]) (by intro x hx; simp at hx; omega)).mono EInt.mono (fun b o hb => by cases hb)) rfl
   clear hS
   have hS := hS99
   clear hS99
   (try simp only [List.nil_append] at hS)
   replace hC := hC.mono ECell.mono hl99
   replace hTr := hTr.mono EInt.mono hl99
   replace hA := hA.mono EInt.mono hl99
   replace hM := hM.mono EMk.mono hl99
   replace hL := hL.mono EBool.mono hl99
   (try replace hcur := hcur.trans hl99)
   refine ol_step rfl (op_call_rt hS cf_16 rfl (fun _ => .inl rfl) (ColR.mono) (gc_Collect_c _ _ hS.hold _ cs tr 400 (heap_ hC hTr) hsh hn6 _ [(p : Int), (p : Int)] hP _ [] (RSl.nil _) (by simp) (by simp) (by simp) (by simp) (by omega) (by omega) (by omega))) ?_
   clear hS
   rintro v100 w ⟨G100, hl100, hR100, hS⟩
   obtain ⟨tt, htt⟩ : ∃ tt, tt = movedI (liveB cs (allI [(p : Int), (p : Int)] [])) := ⟨_, rfl⟩
   rw [← htt] at hR100 x1 x3
   obtain ⟨ocd, ccd, otd, ctd, oRd, cRd, oMd, cMd, rfl, hCd, hTd, hRd, hMd⟩ := colX hR100 rfl rfl x3 rfl
   replace hC := hC.mono ECell.mono hl100
   replace hTr := hTr.mono EInt.mono hl100
   replace hA := hA.mono EInt.mono hl100
   replace hM := hM.mono EMk.mono hl100
   replace hL := hL.mono EBool.mono hl100
   replace hP := hP.mono EInt.mono hl100
   (try replace hcur := hcur.trans hl100)
   refine ol_pure rfl (op_move rfl) (ol_pure rfl (op_extract (vs := [.agg #[.slice ocd (cellsM tt cs).length ccd, .slice otd (trailM tt tr).length ctd, .int .i64 400], .slice oRd 2 cRd, .slice oMd 0 cMd]) rfl rfl) (ol_pure rfl (op_extract (vs := [.agg #[.slice ocd (cellsM tt cs).length ccd, .slice otd (trailM tt tr).length ctd, .int .i64 400], .slice oRd 2 cRd, .slice oMd 0 cMd]) rfl rfl) (ol_pure rfl (op_extract (vs := [.agg #[.slice ocd (cellsM tt cs).length ccd, .slice otd (trailM tt tr).length ctd, .int .i64 400], .slice oRd 2 cRd, .slice oMd 0 cMd]) rfl rfl) ?_)))
   refine ol_step rfl (op_alloc hS el_28 rfl) ?_
   clear hS
   rintro _ w ⟨b18, rfl, hS⟩
   refine ol_step0  (op_storeN (j := 0) hS sz_28 rfl rfl rfl rfl rfl (by simp [Value.oneCell'])) ?_
   clear hS
   rintro _ w hS; (try simp only [List.nil_append, List.cons_append, List.set] at hS)
   refine ol_pure rfl (op_assign rfl) (ol_pure rfl (op_assign rfl) (ol_nil (pq_then (cw_seq (cw_seq (cw_region (ol_pure rfl (op_assign rfl) ?_)))))))
   refine ol_nil (pq_then (cw_block ?_))
   refine cw_loop (fun e w n => ∃ (i m : Nat), e = [(5, .bool true), (16, .slice oL cs.length cL), (17, .int .i64 (m : Nat)), (18, .pointer (some ⟨b18, 0, none⟩)), (19, .slice oRd 2 cRd), (21, .int .i64 (i : Nat))] ∧ i ≤ cs.length ∧ n = cs.length - i ∧ m = cntB ((liveB cs [(p : Int)]).take i) ∧ m ≤ i ∧ SS G w0 G100 [.blk b18 28 [.slice ocd (cellsM tt cs).length ccd, .slice otd (trailM tt tr).length ctd, .int .i64 400], .blk b12 28 [.slice ocb cs.length ccb, .slice otb tr.length ctb, .int .i64 400], .blk b9 28 [.slice oca 0 cca, .slice ota 0 cta, .int .i64 400], .blk b6 31 [.slice oc cs.length cc, .slice ot tr.length ct, .int .i64 400, .slice oA ats.length cA, .slice oM ms.length cM]] w) _ _ (by exact ⟨0, 0, rfl, Nat.zero_le _, rfl, by simp [cntB], Nat.le_refl _, hS⟩) ((Sub.cons rfl (Sub.cons rfl (Sub.cons rfl (Sub.cons rfl (Sub.cons rfl (Sub.cons rfl Sub.nil))))))) ?_
   clear hS
   rintro e w n ⟨i, m, rfl, hi, rfl, hm, hmi, hS⟩
   refine cw_seq (cw_seq (cw_region (ol_pure rfl (op_move rfl) (ol_pure rfl (op_move rfl) (ol_pure rfl (op_len sl_34 rfl rfl) (ol_pure rfl (op_lss rfl rfl) (ol_nil ?_)))))))
   refine pq_then ?_
   refine cw_cond rfl (fun h107 => ?_) (fun h107 => ?_)
   ·
    try simp only [dqT, dqF, dq1, dq2, dq3, dq4, dq5] at h107
    have hlb : i < (liveB cs [(p : Int)]).length := by rw [liveB_len]; omega
    obtain ⟨hoL, hcL⟩ := hL.bool hlb
    have hsu := cntB_succ hlb
    refine cw_skip (pq_then (cw_seq (cw_block (cw_seq (cw_region (ol_pure rfl (op_move rfl) (ol_pure rfl (op_move rfl) ?_)))))))
    refine ol_pure rfl (op_indexN sl_34 rfl rfl (by omega) hoL) (ol_load rfl (op_load1 one_4 rfl (fun w hw => hw.gcell hcL)) hS (ol_nil (pq_then ?_)))
    refine cw_cond rfl (fun h113 => ?_) (fun h113 => ?_)
    ·
     try simp only [dqT, dqF, dq1, dq2, dq3, dq4, dq5] at h113
     rw [if_pos h113, ← hm] at hsu
     refine cw_region (ol_pure rfl (op_move rfl) (ol_pure rfl (op_add rfl rfl (by omega) (by omega)) (ol_pure rfl (op_assign rfl) (ol_nil (pq_in_normal (pq_then (cw_region ?_)))))))
     refine ol_pure rfl (op_move rfl) (ol_pure rfl (op_add rfl rfl (by omega) (by omega)) (ol_pure rfl (op_assign rfl) (ol_nil ?_)))
     refine pq_loop _ _ (by exact ⟨i + 1, m + 1, rfl, by omega, rfl, hsu.symm, by omega, hS⟩) ((Sub.cons rfl (Sub.cons rfl (Sub.cons rfl (Sub.cons rfl (Sub.cons rfl (Sub.cons rfl Sub.nil))))))) (by omega)
    ·
     try simp only [dqT, dqF, dq1, dq2, dq3, dq4, dq5] at h113
     rw [if_neg (by rw [h113]; simp), ← hm] at hsu
     refine cw_skip (pq_in_normal (pq_then (cw_region (ol_pure rfl (op_move rfl) (ol_pure rfl (op_add rfl rfl (by omega) (by omega)) (ol_pure rfl (op_assign rfl) (ol_nil ?_)))))))
     refine pq_loop _ _ (by exact ⟨i + 1, m, rfl, by omega, rfl, by omega, by omega, hS⟩) ((Sub.cons rfl (Sub.cons rfl (Sub.cons rfl (Sub.cons rfl (Sub.cons rfl (Sub.cons rfl Sub.nil))))))) (by omega)
   ·
    try simp only [dqT, dqF, dq1, dq2, dq3, dq4, dq5] at h107
    refine cw_exit (pq_exit (pq_exit (pq_in_exit (pq_then (cw_seq ?_)))))
    obtain rfl : i = cs.length := by omega
    rw [List.take_of_length_le (by rw [liveB_len]; exact Nat.le_refl _)] at hm
    obtain ⟨hoR0, hcR0, _⟩ := hRd.int (i := 0) (by simp)
    obtain ⟨hoR1, hcR1, _⟩ := hRd.int (i := 1) (by simp)
    refine al_start' hS (hS.take 1) (by kernel_rfl) rfl (fun w hS hT => ?_)
    refine al_take (i := 0) rfl (by kernel_rfl) (by kernel_rfl) (by kernel_rfl) rfl (fun _ _ _ h => h) (op_fieldAddr fld_28_0 rfl) rfl (al_load (i := 1) rfl (by kernel_rfl) (by kernel_rfl) (by kernel_rfl) rfl (fun _ _ _ h => h) (by exact op_load1 one_25 rfl (fun w hw => (hw.bcell (i := 0) rfl).trans rfl)) rfl hT (al_take (i := 2) rfl (by kernel_rfl) (by kernel_rfl) (by kernel_rfl) rfl (fun _ _ _ h => h) (op_len sl_25 rfl rfl) rfl (al_take (i := 3) rfl (by kernel_rfl) (by kernel_rfl) (by kernel_rfl) rfl (fun _ _ _ h => h) (op_move rfl) rfl (al_take (i := 4) rfl (by kernel_rfl) (by kernel_rfl) (by kernel_rfl) rfl (fun _ _ _ h => h) (op_eqlT rfl rfl (by rw [x1, hm])) rfl (al_take (i := 5) rfl (by kernel_rfl) (by kernel_rfl) (by kernel_rfl) rfl (fun _ _ _ h => h) (op_move rfl) rfl (al_gtake (i := 6) rfl (by kernel_rfl) (by kernel_rfl) (by kernel_rfl) rfl rfl rfl (fun _ _ _ h => h) (op_move rfl) rfl (al_gtake (i := 7) rfl (by kernel_rfl) (by kernel_rfl) (by kernel_rfl) rfl rfl rfl (fun _ _ _ h => h) (op_len sl_26 rfl rfl) rfl ?_)))))))
    refine al_gtake (i := 8) rfl (by kernel_rfl) (by kernel_rfl) (by kernel_rfl) rfl rfl rfl (fun _ _ _ h => h) (op_eqlT rfl rfl (rfl)) rfl (al_take (i := 9) rfl (by kernel_rfl) (by kernel_rfl) (by kernel_rfl) rfl (fun _ _ _ h => h) (op_pick_t rfl rfl) rfl (al_take (i := 10) rfl (by kernel_rfl) (by kernel_rfl) (by kernel_rfl) rfl (fun _ _ _ h => h) (op_move rfl) rfl (al_gtake (i := 11) rfl (by kernel_rfl) (by kernel_rfl) (by kernel_rfl) rfl rfl rfl (fun _ _ _ h => h) (op_move rfl) rfl (al_gtake (i := 12) rfl (by kernel_rfl) (by kernel_rfl) (by kernel_rfl) rfl rfl rfl (fun _ _ _ h => h) (op_indexN (i := 0) sl_26 rfl rfl (by decide) hoR0) rfl (al_gload (i := 13) rfl (by kernel_rfl) (by kernel_rfl) (by kernel_rfl) rfl rfl rfl (fun _ _ _ h => h) (by exact op_load1 one_3 rfl (fun w hw => hw.gcell hcR0)) rfl hT (al_gtake (i := 14) rfl (by kernel_rfl) (by kernel_rfl) (by kernel_rfl) rfl rfl rfl (fun _ _ _ h => h) (op_move rfl) rfl (al_gtake (i := 15) rfl (by kernel_rfl) (by kernel_rfl) (by kernel_rfl) rfl rfl rfl (fun _ _ _ h => h) (op_indexN (i := 1) sl_26 rfl rfl (by decide) hoR1) rfl ?_)))))))
    refine al_gload (i := 16) rfl (by kernel_rfl) (by kernel_rfl) (by kernel_rfl) rfl rfl rfl (fun _ _ _ h => h) (by exact op_load1 one_3 rfl (fun w hw => hw.gcell hcR1)) rfl hT (al_gtake (i := 17) rfl (by kernel_rfl) (by kernel_rfl) (by kernel_rfl) rfl rfl rfl (fun _ _ _ h => h) (op_eqlT rfl rfl (rfl)) rfl (al_take (i := 18) rfl (by kernel_rfl) (by kernel_rfl) (by kernel_rfl) rfl (fun _ _ _ h => h) (op_pick_t rfl rfl) rfl (al_take (i := 19) rfl (by kernel_rfl) (by kernel_rfl) (by kernel_rfl) rfl (fun _ _ _ h => h) (op_move rfl) rfl (al_gtake (i := 20) rfl (by kernel_rfl) (by kernel_rfl) (by kernel_rfl) rfl rfl rfl (fun _ _ _ h => h) (op_move rfl) rfl (al_gtake (i := 21) rfl (by kernel_rfl) (by kernel_rfl) (by kernel_rfl) rfl rfl rfl (fun _ _ _ h => h) (op_indexN (i := 0) sl_26 rfl rfl (by decide) hoR0) rfl (al_gload (i := 22) rfl (by kernel_rfl) (by kernel_rfl) (by kernel_rfl) rfl rfl rfl (fun _ _ _ h => h) (by exact op_load1 one_3 rfl (fun w hw => hw.gcell hcR0)) rfl hT (al_gtake (i := 23) rfl (by kernel_rfl) (by kernel_rfl) (by kernel_rfl) rfl rfl rfl (fun _ _ _ h => h) (op_val (v' := .bool true) (op_geq rfl rfl) (congrArg Value.bool (decide_eq_true (hv.1)))) rfl ?_)))))))
    refine al_take (i := 24) rfl (by kernel_rfl) (by kernel_rfl) (by kernel_rfl) rfl (fun _ _ _ h => h) (op_pick_t rfl rfl) rfl (al_take (i := 25) rfl (by kernel_rfl) (by kernel_rfl) (by kernel_rfl) rfl (fun _ _ _ h => h) (op_move rfl) rfl (al_gtake (i := 26) rfl (by kernel_rfl) (by kernel_rfl) (by kernel_rfl) rfl rfl rfl (fun _ _ _ h => h) (op_move rfl) rfl (al_take (i := 27) rfl (by kernel_rfl) (by kernel_rfl) (by kernel_rfl) rfl (fun _ _ _ h => h) (op_pick_t rfl rfl) rfl (al_take (i := 28) rfl (by kernel_rfl) (by kernel_rfl) (by kernel_rfl) rfl (fun _ _ _ h => h) (op_assign rfl) rfl (al_done (by kernel_rfl) (pq_then (cw_ret ?_)))))))
    refine ret1 rfl rfl ?_
    exact hS.sc_b rfl
end Go.Proofs.Ytnmkffkalnkbbaa.K
