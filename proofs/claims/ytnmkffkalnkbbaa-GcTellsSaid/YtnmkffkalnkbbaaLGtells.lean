/-
  GcTells: its walk.
  No condition but the premises that each theorem names.
-/
import Derived.Test.YtnmkffkalnkbbaaLHhead
import Derived.Test.YtnmkffkalnkbbaaGc5
namespace Go.Proofs.Ytnmkffkalnkbbaa.K
open Go Go.RowKit
set_option linter.unusedVariables false
set_option linter.unusedSimpArgs false

open Pl

set_option maxRecDepth 100000 in
set_option maxHeartbeats 4000000 in

theorem L09_GcTells_c (G : GH) (w0 : World) (hG : Holds G w0) (v : Value) (l : List (Int × List Cell × Int × Int)) (h1 : RSl 4 EOp G v l) (mask : Int) (hm0 : 0 ≤ mask ∧ mask ≤ 4294967295)  :
   Calls Try.prog 3 #[v, .int .u32 mask] w0 (Sc w0 (.bool true)) := by
 refine enter Try.func3 rfl (N := 102) rfl (Nat.le_of_ble_eq_true rfl) ?_
 have hS := SS.init hG
 refine cw_seq (cw_region (ol_pure rfl (op_assign rfl) (ol_nil (pq_then (cw_seq (cw_region ?_))))))
 refine ol_step rfl (op_call_sc hS cf_11 rfl (L09_head_c G _ hS.hold)) ?_
 clear hS
 rintro _ w ⟨rfl, hS⟩
 refine ol_pure rfl (op_assign rfl) (ol_nil (pq_then (cw_seq (cw_region (ol_pure rfl (op_move rfl) ?_)))))
 refine ol_step rfl (op_call_rt hS cf_12 rfl (fun _ => .inr rfl) (fun _ _ _ hl ⟨cs, tr, ats, ms, vars, h1, h2⟩ => ⟨cs, tr, ats, ms, vars, h1.mono hl, h2⟩) (R09_Made_c _ _ hS.hold v l h1)) ?_
 clear hS
 rintro v19 w ⟨Gm, hl19, hR19, hS⟩
 obtain ⟨cs, tr, ats, ms, vars, ⟨oc, cc, ot, ct, oA, cA, oM, cM, rfl, hC, hTr, hA, hM⟩, hMd⟩ := hR19
 have hok := hMd.ok
 have hsh := hok.slots.ok
 have hn4 := hMd.few
 have htl := hok.trl
 have hal := hMd.atl
 have hml := hMd.msl
 have hn6 : cs.length ≤ 1000000 := by omega
 have hmr : ∀ m ∈ ms, m.roots.length ≤ 1000 := fun m hm => by have := (hMd.mks m hm).2.1; omega
 have hmk : ∀ m ∈ ms, MkOk cs.length tr.length m := fun m hm => (hMd.mks m hm).1
 have hmin : ∀ m ∈ ms, ∀ x ∈ m.roots, 0 ≤ x ∧ x < cs.length := fun m hm x hx => by
   have h1 := (hMd.mks m hm).2.2.1 x hx
   have h2 := hmk m hm
   unfold MkOk at h2
   omega
 refine ol_step rfl (op_alloc hS el_31 rfl) ?_
 clear hS
 rintro _ w ⟨b6, rfl, hS⟩
 refine ol_step0  (op_storeN (j := 0) hS sz_31 rfl rfl rfl rfl rfl (by simp [Value.oneCell'])) ?_
 clear hS
 rintro _ w hS; (try simp only [List.nil_append, List.cons_append, List.set] at hS)
 refine ol_nil (pq_then (cw_seq (cw_region (ol_load rfl (op_loadN agg_31 rfl (by rfl) (fun w hw k u hk => (hw.bcell (i := 0) rfl).trans hk)) hS (ol_pure rfl (op_move rfl) ?_)))))
 refine ol_step rfl (op_call_fr hS cf_13 rfl (R09_Roots_c _ _ hS.hold oc ot cs.length cc tr.length ct 400 _ ats hA oM ms.length cM (by omega) (mask) (hm0.1))) ?_
 clear hS
 rintro v22 w ⟨F22, Gr, hR22, hF22, hf22, hl22, hS⟩
 obtain ⟨roots, hR, hrl, hrm, hrm2⟩ := hR22
 obtain ⟨oR, cR, rfl, _, _⟩ := hR.elim
 replace hR := hR.mono EInt.mono hf22
 have hrin : ∀ x ∈ roots, x = -1 ∨ (0 ≤ x ∧ x < cs.length) := fun x hx => (hrm x hx).elim (fun h => .inr (hMd.at_ x h)) .inl
 obtain ⟨to, hto⟩ : ∃ to, to = movedI (liveB cs (allI roots ms)) := ⟨_, rfl⟩
 have htol : to.length = cs.length := by rw [hto, movedI_len, liveB_len]
 replace hC := hC.mono ECell.mono hl22
 replace hTr := hTr.mono EInt.mono hl22
 replace hA := hA.mono EInt.mono hl22
 replace hM := hM.mono EMk.mono hl22
 (try replace hcur := hcur.trans hl22)
 refine ol_pure rfl (op_assign rfl) (ol_nil (pq_then (cw_seq ?_)))
 have hcur := Le.refl Gr
 refine al_start' hS (hS.take 1) (by kernel_rfl) rfl (fun w hS hT => ?_)
 refine al_take (i := 0) rfl (by kernel_rfl) (by kernel_rfl) (by kernel_rfl) rfl (fun _ _ _ h => h) (op_fieldAddr fld_31_0 rfl) rfl (al_load (i := 1) rfl (by kernel_rfl) (by kernel_rfl) (by kernel_rfl) rfl (fun _ _ _ h => h) (by exact op_loadBS (i := 0) (o := 0) (vs := [.slice oc cs.length cc, .slice ot tr.length ct, .int .i64 400]) agg_28 rfl rfl rfl rfl) rfl hT (al_take (i := 2) rfl (by kernel_rfl) (by kernel_rfl) (by kernel_rfl) rfl (fun _ _ _ h => h) (op_move rfl) rfl (al_take (i := 4) rfl (by kernel_rfl) (by kernel_rfl) (by kernel_rfl) rfl (fun _ _ _ h => h) (op_fieldAddr fld_31_0 rfl) rfl (al_load (i := 5) rfl (by kernel_rfl) (by kernel_rfl) (by kernel_rfl) rfl (fun _ _ _ h => h) (by exact op_loadBS (i := 0) (o := 0) (vs := [.slice oc cs.length cc, .slice ot tr.length ct, .int .i64 400]) agg_28 rfl rfl rfl rfl) rfl hT (al_take (i := 6) rfl (by kernel_rfl) (by kernel_rfl) (by kernel_rfl) rfl (fun _ _ _ h => h) (op_move rfl) rfl ?_)))))
 refine al_step (i := 3) rfl (by kernel_rfl) rfl (op_call_fr hS cf_14 rfl (gc_Live_c _ _ hS.hold _ cs tr 400 (heap_ hC hTr) _ roots hR hsh hn6 (by omega))) ?_
 clear hS
 rintro v26 w ⟨F26, G26, hR26, hF26, hf26, hl26, hS⟩
 obtain ⟨oX, cX, rfl, _, _⟩ := hR26.elimN (n := cs.length) (liveB_len _ _)
 have hX := hR26.mono EBool.mono hf26
 replace hC := hC.mono ECell.mono hl26
 replace hTr := hTr.mono EInt.mono hl26
 replace hA := hA.mono EInt.mono hl26
 replace hM := hM.mono EMk.mono hl26
 replace hR := hR.mono EInt.mono hl26
 (try replace hcur := hcur.trans hl26)
 have hT := hT.back hS (by first | exact Le.refl _ | assumption) (fun x hx => by try simp only [bkA, bkB, bkC, bkD, bkE] at hx; (rcases hx with rfl) <;> simp)
 refine ⟨fun _ _ => hT, ?_⟩
 refine al_step (i := 7) rfl (by kernel_rfl) rfl (op_call_fr hS cf_15 rfl (R09_Live_c _ _ hS.hold _ cs tr 400 (heap_ hC hTr) _ roots hR hsh hn6 (by omega))) ?_
 clear hS
 rintro v30 w ⟨F30, G30, hR30, hF30, hf30, hl30, hS⟩
 obtain ⟨oY, cY, rfl, _, _⟩ := hR30.elimN (n := cs.length) (liveB_len _ _)
 have hY := hR30.mono EBool.mono hf30
 replace hC := hC.mono ECell.mono hl30
 replace hTr := hTr.mono EInt.mono hl30
 replace hA := hA.mono EInt.mono hl30
 replace hM := hM.mono EMk.mono hl30
 replace hR := hR.mono EInt.mono hl30
 replace hX := hX.mono EBool.mono hl30
 (try replace hcur := hcur.trans hl30)
 have hT := hT.back hS (by first | exact Le.refl _ | assumption) (fun x hx => by try simp only [bkA, bkB, bkC, bkD, bkE] at hx; (rcases hx with rfl) <;> simp)
 refine ⟨fun _ _ => hT, ?_⟩
 refine al_take (i := 8) rfl (by kernel_rfl) (by kernel_rfl) (by kernel_rfl) rfl (fun _ _ _ h => h) (op_assign rfl) rfl (al_take (i := 9) rfl (by kernel_rfl) (by kernel_rfl) (by kernel_rfl) rfl (fun _ _ _ h => h) (op_assign rfl) rfl (al_done (by kernel_rfl) (pq_then (cw_seq (cw_seq (cw_region (ol_pure rfl (op_move rfl) ?_)))))))
 refine ol_pure rfl (op_len sl_34 rfl rfl) (ol_pure rfl (op_move rfl) (ol_pure rfl (op_len sl_34 rfl rfl) (ol_pure rfl (op_neqF rfl rfl rfl) (ol_nil (pq_then (cw_cond_f rfl (cw_skip ?_)))))))
 refine pq_then (cw_seq (cw_seq (cw_region (ol_pure rfl (op_assign rfl) (ol_nil (pq_then (cw_block ?_)))))))
 refine cw_loop (fun e w n => ∃ (k : Nat), e = [(5, .bool true), (6, .pointer (some ⟨b6, 0, none⟩)), (7, .slice oR roots.length cR), (8, .slice oX cs.length cX), (9, .slice oY cs.length cY), (10, .int .i64 (k : Nat))] ∧ k ≤ cs.length ∧ n = cs.length - k ∧ SS G w0 G30 [.blk b6 31 [.slice oc cs.length cc, .slice ot tr.length ct, .int .i64 400, .slice oA ats.length cA, .slice oM ms.length cM]] w) _ _ (by exact ⟨0, rfl, Nat.zero_le _, rfl, hS⟩) ((Sub.cons rfl (Sub.cons rfl (Sub.cons rfl (Sub.cons rfl (Sub.cons rfl (Sub.cons rfl Sub.nil))))))) ?_
 clear hS
 rintro e w n ⟨k, rfl, hk, rfl, hS⟩
 refine cw_seq (cw_seq (cw_region (ol_pure rfl (op_move rfl) (ol_pure rfl (op_move rfl) (ol_pure rfl (op_len sl_34 rfl rfl) (ol_pure rfl (op_lss rfl rfl) (ol_nil ?_)))))))
 refine pq_then ?_
 refine cw_cond rfl (fun h39 => ?_) (fun h39 => ?_)
 ·
  try simp only [dqT, dqF, dq1, dq2, dq3, dq4, dq5] at h39
  have hlt : k < (liveB cs roots).length := by rw [liveB_len]; omega
  obtain ⟨hoX, hcX⟩ := hX.bool hlt
  obtain ⟨hoY, hcY⟩ := hY.bool hlt
  refine cw_skip (pq_then (cw_seq (cw_block (cw_seq ?_))))
  refine al_start' hS (hS.take 0) (by kernel_rfl) rfl (fun w hS hT => ?_)
  refine al_take (i := 0) rfl (by kernel_rfl) (by kernel_rfl) (by kernel_rfl) rfl (fun _ _ _ h => h) (op_move rfl) rfl (al_take (i := 1) rfl (by kernel_rfl) (by kernel_rfl) (by kernel_rfl) rfl (fun _ _ _ h => h) (op_move rfl) rfl (al_take (i := 2) rfl (by kernel_rfl) (by kernel_rfl) (by kernel_rfl) rfl (fun _ _ _ h => h) (op_indexN sl_34 rfl rfl (by omega) hoX) rfl (al_load (i := 3) rfl (by kernel_rfl) (by kernel_rfl) (by kernel_rfl) rfl (fun _ _ _ h => h) (by exact op_load1 one_4 rfl (fun w hw => hw.gcell hcX)) rfl hT (al_take (i := 4) rfl (by kernel_rfl) (by kernel_rfl) (by kernel_rfl) rfl (fun _ _ _ h => h) (op_move rfl) rfl (al_take (i := 5) rfl (by kernel_rfl) (by kernel_rfl) (by kernel_rfl) rfl (fun _ _ _ h => h) (op_move rfl) rfl (al_take (i := 6) rfl (by kernel_rfl) (by kernel_rfl) (by kernel_rfl) rfl (fun _ _ _ h => h) (op_indexN sl_34 rfl rfl (by omega) hoY) rfl (al_load (i := 7) rfl (by kernel_rfl) (by kernel_rfl) (by kernel_rfl) rfl (fun _ _ _ h => h) (by exact op_load1 one_4 rfl (fun w hw => hw.gcell hcY)) rfl hT ?_)))))))
  refine al_take (i := 8) rfl (by kernel_rfl) (by kernel_rfl) (by kernel_rfl) rfl (fun _ _ _ h => h) (op_val (v' := .bool false) (op_neqB Try.underlying4 rfl rfl) (by simp)) rfl (al_done (by kernel_rfl) (pq_then (cw_cond_f rfl (cw_skip (pq_in_normal (pq_then (cw_region ?_)))))))
  refine ol_pure rfl (op_move rfl) (ol_pure rfl (op_add rfl rfl (by omega) (by omega)) (ol_pure rfl (op_assign rfl) (ol_nil ?_)))
  refine pq_loop _ _ (by exact ⟨k + 1, rfl, by omega, rfl, hS⟩) ((Sub.cons rfl (Sub.cons rfl (Sub.cons rfl (Sub.cons rfl (Sub.cons rfl (Sub.cons rfl Sub.nil))))))) (by omega)
 ·
  try simp only [dqT, dqF, dq1, dq2, dq3, dq4, dq5] at h39
  refine cw_exit (pq_exit (pq_exit (pq_in_exit (pq_then (cw_seq (cw_region (ol_pure rfl (op_fieldAddr fld_31_0 rfl) ?_)))))))
  refine ol_load rfl (op_loadBS (i := 0) (o := 0) (vs := [.slice oc cs.length cc, .slice ot tr.length ct, .int .i64 400]) agg_28 rfl rfl rfl rfl) hS (ol_pure rfl (op_move rfl) (ol_pure rfl (op_fieldAddr fld_31_2 rfl) (ol_load rfl (op_load1 one_29 rfl (fun w hw => (hw.bcell (i := 0) rfl).trans rfl)) hS ?_)))
  refine ol_step rfl (op_call_rt hS cf_16 rfl (fun _ => .inr rfl) (ColR.mono) (gc_Collect_c _ _ hS.hold _ cs tr 400 (heap_ hC hTr) hsh hn6 _ roots hR _ ms hM (by omega) (by omega) hmr hmk (by omega) (by omega) (by omega))) ?_
  clear hS
  rintro v57 w ⟨G57, hl57, hR57, hS⟩
  rw [← hto] at hR57
  obtain ⟨oce, cce, ote, cte, oRe, cRe, oMe, cMe, rfl, hCe, hTe, hRe, hMe⟩ := colX hR57 rfl rfl rfl rfl
  replace hC := hC.mono ECell.mono hl57
  replace hTr := hTr.mono EInt.mono hl57
  replace hA := hA.mono EInt.mono hl57
  replace hM := hM.mono EMk.mono hl57
  replace hR := hR.mono EInt.mono hl57
  replace hX := hX.mono EBool.mono hl57
  replace hY := hY.mono EBool.mono hl57
  (try replace hcur := hcur.trans hl57)
  refine ol_pure rfl (op_move rfl) (ol_pure rfl (op_extract (vs := [.agg #[.slice oce (cellsM to cs).length cce, .slice ote (trailM to tr).length cte, .int .i64 400], .slice oRe (toI to roots).length cRe, .slice oMe (ms.map (markM to tr)).length cMe]) rfl rfl) (ol_pure rfl (op_extract (vs := [.agg #[.slice oce (cellsM to cs).length cce, .slice ote (trailM to tr).length cte, .int .i64 400], .slice oRe (toI to roots).length cRe, .slice oMe (ms.map (markM to tr)).length cMe]) rfl rfl) (ol_pure rfl (op_extract (vs := [.agg #[.slice oce (cellsM to cs).length cce, .slice ote (trailM to tr).length cte, .int .i64 400], .slice oRe (toI to roots).length cRe, .slice oMe (ms.map (markM to tr)).length cMe]) rfl rfl) ?_)))
  refine ol_step rfl (op_alloc hS el_28 rfl) ?_
  clear hS
  rintro _ w ⟨b11, rfl, hS⟩
  refine ol_step0  (op_storeN (j := 0) hS sz_28 rfl rfl rfl rfl rfl (by simp [Value.oneCell'])) ?_
  clear hS
  rintro _ w hS; (try simp only [List.nil_append, List.cons_append, List.set] at hS)
  refine ol_pure rfl (op_assign rfl) (ol_pure rfl (op_assign rfl) (ol_nil (pq_then (cw_seq (cw_region (ol_pure rfl (op_fieldAddr fld_31_0 rfl) (ol_load rfl (op_loadBS (i := 1) (o := 0) (vs := [.slice oc cs.length cc, .slice ot tr.length ct, .int .i64 400]) agg_28 rfl rfl rfl rfl) hS ?_)))))))
  refine ol_pure rfl (op_move rfl) (ol_pure rfl (op_fieldAddr fld_31_2 rfl) (ol_load rfl (op_load1 one_29 rfl (fun w hw => (hw.bcell (i := 1) rfl).trans rfl)) hS ?_))
  refine ol_step rfl (op_call_rt hS cf_17 rfl (fun _ => .inr rfl) (ColR.mono) (R09_Collect_c _ _ hS.hold _ cs tr 400 (heap_ hC hTr) hsh hn6 _ roots hR _ ms hM (by omega) (by omega) hmr hmk (by omega))) ?_
  clear hS
  rintro v67 w ⟨G67, hl67, hR67, hS⟩
  rw [← hto] at hR67
  obtain ⟨ocf, ccf, otf, ctf, oRf, cRf, oMf, cMf, rfl, hCf, hTf, hRf, hMf⟩ := colX hR67 rfl rfl rfl rfl
  replace hC := hC.mono ECell.mono hl67
  replace hTr := hTr.mono EInt.mono hl67
  replace hA := hA.mono EInt.mono hl67
  replace hM := hM.mono EMk.mono hl67
  replace hR := hR.mono EInt.mono hl67
  replace hX := hX.mono EBool.mono hl67
  replace hY := hY.mono EBool.mono hl67
  replace hCe := hCe.mono ECell.mono hl67
  replace hTe := hTe.mono EInt.mono hl67
  replace hRe := hRe.mono EInt.mono hl67
  replace hMe := hMe.mono EMk.mono hl67
  (try replace hcur := hcur.trans hl67)
  refine ol_pure rfl (op_move rfl) (ol_pure rfl (op_extract (vs := [.agg #[.slice ocf (cellsM to cs).length ccf, .slice otf (trailM to tr).length ctf, .int .i64 400], .slice oRf (toI to roots).length cRf, .slice oMf (ms.map (markM to tr)).length cMf]) rfl rfl) (ol_pure rfl (op_extract (vs := [.agg #[.slice ocf (cellsM to cs).length ccf, .slice otf (trailM to tr).length ctf, .int .i64 400], .slice oRf (toI to roots).length cRf, .slice oMf (ms.map (markM to tr)).length cMf]) rfl rfl) (ol_pure rfl (op_extract (vs := [.agg #[.slice ocf (cellsM to cs).length ccf, .slice otf (trailM to tr).length ctf, .int .i64 400], .slice oRf (toI to roots).length cRf, .slice oMf (ms.map (markM to tr)).length cMf]) rfl rfl) ?_)))
  refine ol_step rfl (op_alloc hS el_28 rfl) ?_
  clear hS
  rintro _ w ⟨b14, rfl, hS⟩
  refine ol_step0  (op_storeN (j := 0) hS sz_28 rfl rfl rfl rfl rfl (by simp [Value.oneCell'])) ?_
  clear hS
  rintro _ w hS; (try simp only [List.nil_append, List.cons_append, List.set] at hS)
  refine ol_pure rfl (op_assign rfl) (ol_pure rfl (op_assign rfl) (ol_nil (pq_then (cw_seq ?_))))
  clear hcur
  have hcur := Le.refl G67
  refine al_start' hS (hS.take 3) (by kernel_rfl) rfl (fun w hS hT => ?_)
  refine al_load (i := 0) rfl (by kernel_rfl) (by kernel_rfl) (by kernel_rfl) rfl (fun _ _ _ h => h) (by exact op_loadN agg_28 rfl (by rfl) (fun w hw k u hk => (hw.bcell (i := 1) rfl).trans hk)) rfl hT (al_load (i := 1) rfl (by kernel_rfl) (by kernel_rfl) (by kernel_rfl) rfl (fun _ _ _ h => h) (by exact op_loadN agg_28 rfl (by rfl) (fun w hw k u hk => (hw.bcell (i := 0) rfl).trans hk)) rfl hT ?_)
  refine al_step (i := 2) rfl (by kernel_rfl) rfl (op_call_sc hS cf_18 rfl (R08_Same_c _ _ hS.hold _ _ (cellsM to cs) (cellsM to cs) (trailM to tr) (trailM to tr) 400 400 (heap_ hCe hTe) (heap_ hCf hTf) rfl rfl rfl)) ?_
  clear hS
  rintro _ w ⟨rfl, hS⟩
  have hT := hT.back hS (by first | exact Le.refl _ | assumption) (fun x hx => by try simp only [bkA, bkB, bkC, bkD, bkE] at hx; (rcases hx with rfl | rfl | rfl) <;> simp)
  refine ⟨fun _ _ => hT, ?_⟩
  refine al_take (i := 3) rfl (by kernel_rfl) (by kernel_rfl) (by kernel_rfl) rfl (fun _ _ _ h => h) (op_move rfl) rfl (al_gtake (i := 4) rfl (by kernel_rfl) (by kernel_rfl) (by kernel_rfl) rfl rfl rfl (fun _ _ _ h => h) (op_move rfl) rfl (al_gtake (i := 5) rfl (by kernel_rfl) (by kernel_rfl) (by kernel_rfl) rfl rfl rfl (fun _ _ _ h => h) (op_move rfl) rfl ?_))
  refine al_gstep (i := 6) rfl (by kernel_rfl) rfl rfl rfl (op_call_sc hS cf_19 rfl (ints_t hS.hold hRe hRf)) ?_
  clear hS
  rintro _ w ⟨rfl, hS⟩
  have hT := hT.back hS (by first | exact Le.refl _ | assumption) (fun x hx => by try simp only [bkA, bkB, bkC, bkD, bkE] at hx; (rcases hx with rfl | rfl | rfl) <;> simp)
  refine ⟨fun _ _ => hT, ?_⟩
  refine al_take (i := 7) rfl (by kernel_rfl) (by kernel_rfl) (by kernel_rfl) rfl (fun _ _ _ h => h) (op_pick_t rfl rfl) rfl (al_take (i := 8) rfl (by kernel_rfl) (by kernel_rfl) (by kernel_rfl) rfl (fun _ _ _ h => h) (op_move rfl) rfl (al_gtake (i := 9) rfl (by kernel_rfl) (by kernel_rfl) (by kernel_rfl) rfl rfl rfl (fun _ _ _ h => h) (op_move rfl) rfl (al_gtake (i := 10) rfl (by kernel_rfl) (by kernel_rfl) (by kernel_rfl) rfl rfl rfl (fun _ _ _ h => h) (op_move rfl) rfl ?_)))
  refine al_gstep (i := 11) rfl (by kernel_rfl) rfl rfl rfl (op_call_sc hS cf_20 rfl (R09_SameMarks_c _ _ hS.hold _ _ _ hMe hMf)) ?_
  clear hS
  rintro _ w ⟨rfl, hS⟩
  have hT := hT.back hS (by first | exact Le.refl _ | assumption) (fun x hx => by try simp only [bkA, bkB, bkC, bkD, bkE] at hx; (rcases hx with rfl | rfl | rfl) <;> simp)
  refine ⟨fun _ _ => hT, ?_⟩
  refine al_take (i := 12) rfl (by kernel_rfl) (by kernel_rfl) (by kernel_rfl) rfl (fun _ _ _ h => h) (op_pick_t rfl rfl) rfl (al_take (i := 13) rfl (by kernel_rfl) (by kernel_rfl) (by kernel_rfl) rfl (fun _ _ _ h => h) (op_move rfl) rfl (al_gtake (i := 14) rfl (by kernel_rfl) (by kernel_rfl) (by kernel_rfl) rfl rfl rfl (fun _ _ _ h => h) (op_fieldAddr fld_31_0 rfl) rfl (al_gload (i := 15) rfl (by kernel_rfl) (by kernel_rfl) (by kernel_rfl) rfl rfl rfl (fun _ _ _ h => h) (by exact op_loadBS (i := 2) (o := 0) (vs := [.slice oc cs.length cc, .slice ot tr.length ct, .int .i64 400]) agg_28 rfl rfl rfl rfl) rfl hT (al_gtake (i := 16) rfl (by kernel_rfl) (by kernel_rfl) (by kernel_rfl) rfl rfl rfl (fun _ _ _ h => h) (op_move rfl) rfl (al_gtake (i := 17) rfl (by kernel_rfl) (by kernel_rfl) (by kernel_rfl) rfl rfl rfl (fun _ _ _ h => h) (op_fieldAddr fld_31_2 rfl) rfl (al_gload (i := 18) rfl (by kernel_rfl) (by kernel_rfl) (by kernel_rfl) rfl rfl rfl (fun _ _ _ h => h) (by exact op_load1 one_29 rfl (fun w hw => (hw.bcell (i := 2) rfl).trans rfl)) rfl hT (al_gtake (i := 20) rfl (by kernel_rfl) (by kernel_rfl) (by kernel_rfl) rfl rfl rfl (fun _ _ _ h => h) (op_fieldAddr fld_31_0 rfl) rfl ?_)))))))
  refine al_gload (i := 21) rfl (by kernel_rfl) (by kernel_rfl) (by kernel_rfl) rfl rfl rfl (fun _ _ _ h => h) (by exact op_loadBS (i := 2) (o := 0) (vs := [.slice oc cs.length cc, .slice ot tr.length ct, .int .i64 400]) agg_28 rfl rfl rfl rfl) rfl hT (al_gtake (i := 22) rfl (by kernel_rfl) (by kernel_rfl) (by kernel_rfl) rfl rfl rfl (fun _ _ _ h => h) (op_move rfl) rfl (al_gtake (i := 23) rfl (by kernel_rfl) (by kernel_rfl) (by kernel_rfl) rfl rfl rfl (fun _ _ _ h => h) (op_fieldAddr fld_31_2 rfl) rfl (al_gload (i := 24) rfl (by kernel_rfl) (by kernel_rfl) (by kernel_rfl) rfl rfl rfl (fun _ _ _ h => h) (by exact op_load1 one_29 rfl (fun w hw => (hw.bcell (i := 2) rfl).trans rfl)) rfl hT ?_)))
  refine al_gstep (i := 19) rfl (by kernel_rfl) rfl rfl rfl (op_call_fr hS cf_21 rfl (gc_Moved_c _ _ hS.hold _ cs tr 400 (heap_ hC hTr) hsh hn6 _ roots hR _ ms hM (by omega) (by omega) hmr)) ?_
  clear hS
  rintro v90 w ⟨F90, G90, hR90, hF90, hf90, hl90, hS⟩
  rw [← hto] at hR90
  obtain ⟨oV, coV, rfl, _, _⟩ := hR90.elim
  have hV := hR90.mono EInt.mono hf90
  replace hC := hC.mono ECell.mono hl90
  replace hTr := hTr.mono EInt.mono hl90
  replace hA := hA.mono EInt.mono hl90
  replace hM := hM.mono EMk.mono hl90
  replace hR := hR.mono EInt.mono hl90
  replace hX := hX.mono EBool.mono hl90
  replace hY := hY.mono EBool.mono hl90
  replace hCe := hCe.mono ECell.mono hl90
  replace hTe := hTe.mono EInt.mono hl90
  replace hRe := hRe.mono EInt.mono hl90
  replace hMe := hMe.mono EMk.mono hl90
  replace hCf := hCf.mono ECell.mono hl90
  replace hTf := hTf.mono EInt.mono hl90
  replace hRf := hRf.mono EInt.mono hl90
  replace hMf := hMf.mono EMk.mono hl90
  (try replace hcur := hcur.trans hl90)
  have hT := hT.back hS (by first | exact Le.refl _ | assumption) (fun x hx => by try simp only [bkA, bkB, bkC, bkD, bkE] at hx; (rcases hx with rfl | rfl | rfl) <;> simp)
  refine ⟨fun _ _ => hT, ?_⟩
  refine al_gstep (i := 25) rfl (by kernel_rfl) rfl rfl rfl (op_call_fr hS cf_22 rfl (R09_Moved_c _ _ hS.hold _ cs tr 400 (heap_ hC hTr) hsh hn6 _ roots hR _ ms hM (by omega) (by omega) hmr)) ?_
  clear hS
  rintro v96 w ⟨F96, G96, hR96, hF96, hf96, hl96, hS⟩
  rw [← hto] at hR96
  obtain ⟨oW, coW, rfl, _, _⟩ := hR96.elim
  have hW := hR96.mono EInt.mono hf96
  replace hC := hC.mono ECell.mono hl96
  replace hTr := hTr.mono EInt.mono hl96
  replace hA := hA.mono EInt.mono hl96
  replace hM := hM.mono EMk.mono hl96
  replace hR := hR.mono EInt.mono hl96
  replace hX := hX.mono EBool.mono hl96
  replace hY := hY.mono EBool.mono hl96
  replace hCe := hCe.mono ECell.mono hl96
  replace hTe := hTe.mono EInt.mono hl96
  replace hRe := hRe.mono EInt.mono hl96
  replace hMe := hMe.mono EMk.mono hl96
  replace hCf := hCf.mono ECell.mono hl96
  replace hTf := hTf.mono EInt.mono hl96
  replace hRf := hRf.mono EInt.mono hl96
  replace hMf := hMf.mono EMk.mono hl96
  replace hV := hV.mono EInt.mono hl96
  (try replace hcur := hcur.trans hl96)
  have hT := hT.back hS (by first | exact Le.refl _ | assumption) (fun x hx => by try simp only [bkA, bkB, bkC, bkD, bkE] at hx; (rcases hx with rfl | rfl | rfl) <;> simp)
  refine ⟨fun _ _ => hT, ?_⟩
  refine al_gstep (i := 26) rfl (by kernel_rfl) rfl rfl rfl (op_call_sc hS cf_19 rfl (ints_t hS.hold hV hW)) ?_
  clear hS
  rintro _ w ⟨rfl, hS⟩
  have hT := hT.back hS (by first | exact Le.refl _ | assumption) (fun x hx => by try simp only [bkA, bkB, bkC, bkD, bkE] at hx; (rcases hx with rfl | rfl | rfl) <;> simp)
  refine ⟨fun _ _ => hT, ?_⟩
  refine al_take (i := 27) rfl (by kernel_rfl) (by kernel_rfl) (by kernel_rfl) rfl (fun _ _ _ h => h) (op_pick_t rfl rfl) rfl (al_take (i := 28) rfl (by kernel_rfl) (by kernel_rfl) (by kernel_rfl) rfl (fun _ _ _ h => h) (op_move rfl) rfl (al_gtake (i := 29) rfl (by kernel_rfl) (by kernel_rfl) (by kernel_rfl) rfl rfl rfl (fun _ _ _ h => h) (op_move rfl) rfl (al_take (i := 30) rfl (by kernel_rfl) (by kernel_rfl) (by kernel_rfl) rfl (fun _ _ _ h => h) (op_pick_t rfl rfl) rfl (al_take (i := 31) rfl (by kernel_rfl) (by kernel_rfl) (by kernel_rfl) rfl (fun _ _ _ h => h) (op_assign rfl) rfl (al_done (by kernel_rfl) (pq_then (cw_ret ?_)))))))
  refine ret1 rfl rfl ?_
  exact hS.sc_b rfl
end Go.Proofs.Ytnmkffkalnkbbaa.K
