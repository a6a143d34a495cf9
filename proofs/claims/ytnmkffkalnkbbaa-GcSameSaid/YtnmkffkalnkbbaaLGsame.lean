/-
  GcSame: its walk.
  No condition but the premises that each theorem names.
-/
import Derived.Test.YtnmkffkalnkbbaaGcom
namespace Go.Proofs.Ytnmkffkalnkbbaa.K
open Go Go.RowKit
set_option linter.unusedVariables false
set_option linter.unusedSimpArgs false

open Pl

set_option maxRecDepth 100000 in
set_option maxHeartbeats 4000000 in

theorem L09_GcSame_c (G : GH) (w0 : World) (hG : Holds G w0) (v : Value) (l : List (Int × List Cell × Int × Int)) (h1 : RSl 4 EOp G v l) (mask : Int) (hm0 : 0 ≤ mask ∧ mask ≤ 4294967295)  :
   Calls Try.prog 4 #[v, .int .u32 mask] w0 (Sc w0 (.bool true)) := by
 refine enter Try.func4 rfl (N := 89) rfl (Nat.le_of_ble_eq_true rfl) ?_
 have hS := SS.init hG
 refine cw_seq (cw_region (ol_pure rfl (op_assign rfl) (ol_nil (pq_then (cw_seq (cw_region ?_))))))
 refine ol_step rfl (op_call_sc hS cf_11 rfl (L09_head_c G _ hS.hold)) ?_
 clear hS
 rintro _ w ⟨rfl, hS⟩
 refine ol_pure rfl (op_assign rfl) (ol_nil (pq_then (cw_seq (cw_region (ol_pure rfl (op_move rfl) ?_)))))
 refine ol_step rfl (op_call_rt hS cf_12 rfl (fun _ => .inr rfl) (fun _ _ _ hl ⟨cs, tr, ats, ms, vars, h1, h2⟩ => ⟨cs, tr, ats, ms, vars, h1.mono hl, h2⟩) (R09_Made_c _ _ hS.hold v l h1)) ?_
 clear hS
 rintro v15 w ⟨Gm, hl15, hR15, hS⟩
 obtain ⟨cs, tr, ats, ms, vars, ⟨oc, cc, ot, ct, oA, cA, oM, cM, rfl, hC, hTr, hA, hM⟩, hMd⟩ := hR15
 have hok := hMd.ok
 have hsh := hok.slots.ok
 have hn4 := hMd.few
 have htl := hok.trl
 have hal := hMd.atl
 have hml := hMd.msl
 have hn6 : cs.length ≤ 1000000 := by omega
 have hmr : ∀ m ∈ ms, m.roots.length ≤ 1000 := fun m hm => by have := (hMd.mks m hm).2.1; omega
 have hmk : ∀ m ∈ ms, MkOk cs.length tr.length m := fun m hm => (hMd.mks m hm).1
 have hmin : ∀ m ∈ ms, ∀ x ∈ m.roots, 0 ≤ x ∧ x < cs.length := fun m hm x hx => by
   have h1 := (hMd.mks m hm).2.2.1 x hx
   have h2 := hmk m hm
   unfold MkOk at h2
   omega
 refine ol_step rfl (op_alloc hS el_31 rfl) ?_
 clear hS
 rintro _ w ⟨b6, rfl, hS⟩
 refine ol_step0  (op_storeN (j := 0) hS sz_31 rfl rfl rfl rfl rfl (by simp [Value.oneCell'])) ?_
 clear hS
 rintro _ w hS; (try simp only [List.nil_append, List.cons_append, List.set] at hS)
 refine ol_nil (pq_then (cw_seq (cw_region (ol_load rfl (op_loadN agg_31 rfl (by rfl) (fun w hw k u hk => (hw.bcell (i := 0) rfl).trans hk)) hS (ol_pure rfl (op_move rfl) ?_)))))
 refine ol_step rfl (op_call_fr hS cf_13 rfl (R09_Roots_c _ _ hS.hold oc ot cs.length cc tr.length ct 400 _ ats hA oM ms.length cM (by omega) (mask) (hm0.1))) ?_
 clear hS
 rintro v18 w ⟨F18, Gr, hR18, hF18, hf18, hl18, hS⟩
 obtain ⟨roots, hR, hrl, hrm, hrm2⟩ := hR18
 obtain ⟨oR, cR, rfl, _, _⟩ := hR.elim
 replace hR := hR.mono EInt.mono hf18
 have hrin : ∀ x ∈ roots, x = -1 ∨ (0 ≤ x ∧ x < cs.length) := fun x hx => (hrm x hx).elim (fun h => .inr (hMd.at_ x h)) .inl
 obtain ⟨to, hto⟩ : ∃ to, to = movedI (liveB cs (allI roots ms)) := ⟨_, rfl⟩
 have htc : to = toC cs (allI roots ms) := hto
 have htol : to.length = cs.length := by rw [hto, movedI_len, liveB_len]
 replace hC := hC.mono ECell.mono hl18
 replace hTr := hTr.mono EInt.mono hl18
 replace hA := hA.mono EInt.mono hl18
 replace hM := hM.mono EMk.mono hl18
 (try replace hcur := hcur.trans hl18)
 refine ol_pure rfl (op_assign rfl) (ol_nil (pq_then (cw_seq (cw_region (ol_pure rfl (op_fieldAddr fld_31_0 rfl) (ol_load rfl (op_loadBS (i := 0) (o := 0) (vs := [.slice oc cs.length cc, .slice ot tr.length ct, .int .i64 400]) agg_28 rfl rfl rfl rfl) hS (ol_pure rfl (op_move rfl) ?_)))))))
 refine ol_pure rfl (op_fieldAddr fld_31_2 rfl) (ol_load rfl (op_load1 one_29 rfl (fun w hw => (hw.bcell (i := 0) rfl).trans rfl)) hS ?_)
 refine ol_step rfl (op_call_rt hS cf_16 rfl (fun _ => .inr rfl) (ColR.mono) (gc_Collect_c _ _ hS.hold _ cs tr 400 (heap_ hC hTr) hsh hn6 _ roots hR _ ms hM (by omega) (by omega) hmr hmk (by omega) (by omega) (by omega))) ?_
 clear hS
 rintro v25 w ⟨G25, hl25, hR25, hS⟩
 rw [← hto] at hR25
 obtain ⟨oce, cce, ote, cte, oRe, cRe, oMe, cMe, rfl, hCe, hTe, hRe, hMe⟩ := colX hR25 rfl rfl rfl rfl
 replace hC := hC.mono ECell.mono hl25
 replace hTr := hTr.mono EInt.mono hl25
 replace hA := hA.mono EInt.mono hl25
 replace hM := hM.mono EMk.mono hl25
 replace hR := hR.mono EInt.mono hl25
 (try replace hcur := hcur.trans hl25)
 refine ol_pure rfl (op_move rfl) (ol_pure rfl (op_extract (vs := [.agg #[.slice oce (cellsM to cs).length cce, .slice ote (trailM to tr).length cte, .int .i64 400], .slice oRe (toI to roots).length cRe, .slice oMe (ms.map (markM to tr)).length cMe]) rfl rfl) (ol_pure rfl (op_extract (vs := [.agg #[.slice oce (cellsM to cs).length cce, .slice ote (trailM to tr).length cte, .int .i64 400], .slice oRe (toI to roots).length cRe, .slice oMe (ms.map (markM to tr)).length cMe]) rfl rfl) (ol_pure rfl (op_extract (vs := [.agg #[.slice oce (cellsM to cs).length cce, .slice ote (trailM to tr).length cte, .int .i64 400], .slice oRe (toI to roots).length cRe, .slice oMe (ms.map (markM to tr)).length cMe]) rfl rfl) ?_)))
 refine ol_step rfl (op_alloc hS el_28 rfl) ?_
 clear hS
 rintro _ w ⟨b8, rfl, hS⟩
 refine ol_step0  (op_storeN (j := 0) hS sz_28 rfl rfl rfl rfl rfl (by simp [Value.oneCell'])) ?_
 clear hS
 rintro _ w hS; (try simp only [List.nil_append, List.cons_append, List.set] at hS)
 refine ol_pure rfl (op_assign rfl) (ol_pure rfl (op_assign rfl) (ol_nil (pq_then (cw_seq (cw_region (ol_pure rfl (op_fieldAddr fld_31_0 rfl) (ol_load rfl (op_loadBS (i := 1) (o := 0) (vs := [.slice oc cs.length cc, .slice ot tr.length ct, .int .i64 400]) agg_28 rfl rfl rfl rfl) hS ?_)))))))
 refine ol_pure rfl (op_move rfl) (ol_pure rfl (op_fieldAddr fld_31_2 rfl) (ol_load rfl (op_load1 one_29 rfl (fun w hw => (hw.bcell (i := 1) rfl).trans rfl)) hS ?_))
 refine ol_step rfl (op_call_fr hS cf_21 rfl (gc_Moved_c _ _ hS.hold _ cs tr 400 (heap_ hC hTr) hsh hn6 _ roots hR _ ms hM (by omega) (by omega) hmr)) ?_
 clear hS
 rintro v34 w ⟨F34, G34, hR34, hF34, hf34, hl34, hS⟩
 rw [← hto] at hR34
 obtain ⟨oV, coV, rfl, _, _⟩ := hR34.elim
 have hV := hR34.mono EInt.mono hf34
 replace hC := hC.mono ECell.mono hl34
 replace hTr := hTr.mono EInt.mono hl34
 replace hA := hA.mono EInt.mono hl34
 replace hM := hM.mono EMk.mono hl34
 replace hR := hR.mono EInt.mono hl34
 replace hCe := hCe.mono ECell.mono hl34
 replace hTe := hTe.mono EInt.mono hl34
 replace hRe := hRe.mono EInt.mono hl34
 replace hMe := hMe.mono EMk.mono hl34
 (try replace hcur := hcur.trans hl34)
 obtain ⟨hok2, hle2⟩ := col_ok htc hok
 have hn1 : cs.length ≤ 1000 := by omega
 have hal0 := same_al htc hok hn1 (rs := roots) (fun x hx => allI_mem.2 (.inl hx)) hrin
 refine ol_pure rfl (op_assign rfl) (ol_nil (pq_then (cw_seq (cw_seq (cw_region (ol_pure rfl (op_move rfl) (ol_pure rfl (op_len sl_26 rfl rfl) ?_)))))))
 refine ol_pure rfl (op_fieldAddr fld_31_0 rfl) (ol_pure rfl (op_fieldAddr2 (o := 0) (q := 0) fld_28_0 rfl (by decide)) (ol_load rfl (op_load1 one_25 rfl (fun w hw => (hw.bcell (i := 1) rfl).trans rfl)) hS (ol_pure rfl (op_len sl_25 rfl rfl) (ol_pure rfl (op_neqF rfl rfl (by omega)) (ol_pure rfl (op_move rfl) (ol_guard_pure rfl rfl rfl (op_move rfl) (ol_guard_pure rfl rfl rfl (op_len sl_29 rfl rfl) ?_)))))))
 refine ol_guard_pure rfl rfl rfl (op_fieldAddr fld_31_2 rfl) (ol_guard_load rfl rfl rfl (op_load1 one_29 rfl (fun w hw => (hw.bcell (i := 1) rfl).trans rfl)) hS (ol_guard_pure rfl rfl rfl (op_len sl_29 rfl rfl) (ol_guard_pure rfl rfl rfl (op_neqF rfl rfl (by simp)) (ol_pure rfl (op_pick_f rfl rfl) (ol_pure rfl (op_move rfl) (ol_guard_load rfl rfl rfl (op_loadN agg_28 rfl (by rfl) (fun w hw k u hk => (hw.bcell (i := 0) rfl).trans hk)) hS ?_))))))
 refine ol_guard_step rfl rfl rfl (op_call_sc hS cf_23 rfl (R08_Right_c _ _ hS.hold _ (cellsM to cs) (trailM to tr) 400 (heap_ hCe hTe) hok2 (by omega) (by omega) (by omega))) ?_
 clear hS
 rintro _ w ⟨rfl, hS⟩
 refine ol_guard_pure rfl rfl rfl (op_not rfl) (ol_pure rfl (op_pick_f rfl rfl) (ol_pure rfl (op_move rfl) (ol_guard_pure rfl rfl rfl (op_fieldAddr fld_31_0 rfl) (ol_guard_load rfl rfl rfl (op_loadBS (i := 1) (o := 0) (vs := [.slice oc cs.length cc, .slice ot tr.length ct, .int .i64 400]) agg_28 rfl rfl rfl rfl) hS (ol_guard_pure rfl rfl rfl (op_move rfl) (ol_guard_load rfl rfl rfl (op_loadN agg_28 rfl (by rfl) (fun w hw k u hk => (hw.bcell (i := 0) rfl).trans hk)) hS (ol_guard_pure rfl rfl rfl (op_move rfl) ?_)))))))
 refine ol_guard_pure rfl rfl rfl (op_move rfl) ?_
 refine ol_guard_step rfl rfl rfl (op_call_sc hS cf_24 rfl (R09_Alike_c _ _ hS.hold _ _ cs (cellsM to cs) tr (trailM to tr) 400 400 (heap_ hC hTr) (heap_ hCe hTe) hsh hok.rank hok2.slots.ok hok2.rank hn6 (by omega) _ _ _ roots (toI to roots) to hR hRe hV hal0)) ?_
 clear hS
 rintro _ w ⟨rfl, hS⟩
 refine ol_guard_pure rfl rfl rfl (op_not rfl) (ol_pure rfl (op_pick_f rfl rfl) (ol_nil (pq_then (cw_cond_f rfl (cw_skip (pq_then (cw_seq ?_)))))))
 refine cw_seq (cw_region (ol_pure rfl (op_assign rfl) (ol_nil (pq_then (cw_block ?_)))))
 refine cw_loop (fun e w n => ∃ (k : Nat), e = [(5, .bool true), (6, .pointer (some ⟨b6, 0, none⟩)), (8, .pointer (some ⟨b8, 0, none⟩)), (10, .slice oMe (ms.map (markM to tr)).length cMe), (11, .slice oV to.length coV), (12, .int .i64 (k : Nat))] ∧ k ≤ ms.length ∧ n = ms.length - k ∧ SS G w0 G34 [.blk b8 28 [.slice oce (cellsM to cs).length cce, .slice ote (trailM to tr).length cte, .int .i64 400], .blk b6 31 [.slice oc cs.length cc, .slice ot tr.length ct, .int .i64 400, .slice oA ats.length cA, .slice oM ms.length cM]] w) _ _ (by exact ⟨0, rfl, Nat.zero_le _, rfl, hS⟩) ((Sub.cons rfl (Sub.cons rfl (Sub.cons rfl (Sub.cons rfl (Sub.cons rfl (Sub.cons rfl Sub.nil))))))) ?_
 clear hS
 rintro e w n ⟨k, rfl, hk, rfl, hS⟩
 refine cw_seq (cw_seq (cw_region (ol_pure rfl (op_move rfl) (ol_pure rfl (op_move rfl) (ol_pure rfl (op_len sl_29 rfl rfl) (ol_pure rfl (op_lss rfl rfl) (ol_nil ?_)))))))
 refine pq_then ?_
 refine cw_cond rfl (fun h68 => ?_) (fun h68 => ?_)
 ·
  try simp only [dqT, dqF, dq1, dq2, dq3, dq4, dq5] at h68
  have hlt : k < ms.length := by
    simp only [List.length_map] at h68
    omega
  obtain ⟨hoM, o9, d9, hr9, hb9, hc9⟩ := hM.mkAt hlt
  obtain ⟨hoN, o8, d8, hr8, hc8⟩ := hMe.mkM hlt
  have hal1 := same_al htc hok hn1 (rs := ms[k].roots) (fun x hx => allI_mem.2 (.inr ⟨_, List.getElem_mem hlt, hx⟩)) (fun x hx => .inr (hmin _ (List.getElem_mem hlt) x hx))
  refine cw_skip (pq_then (cw_seq (cw_block (cw_seq ?_))))
  refine al_start' hS (hS.take 2) (by kernel_rfl) rfl (fun w hS hT => ?_)
  refine al_take (i := 0) rfl (by kernel_rfl) (by kernel_rfl) (by kernel_rfl) rfl (fun _ _ _ h => h) (op_fieldAddr fld_31_0 rfl) rfl (al_load (i := 1) rfl (by kernel_rfl) (by kernel_rfl) (by kernel_rfl) rfl (fun _ _ _ h => h) (by exact op_loadBS (i := 1) (o := 0) (vs := [.slice oc cs.length cc, .slice ot tr.length ct, .int .i64 400]) agg_28 rfl rfl rfl rfl) rfl hT (al_take (i := 2) rfl (by kernel_rfl) (by kernel_rfl) (by kernel_rfl) rfl (fun _ _ _ h => h) (op_fieldAddr fld_31_2 rfl) rfl (al_load (i := 3) rfl (by kernel_rfl) (by kernel_rfl) (by kernel_rfl) rfl (fun _ _ _ h => h) (by exact op_load1 one_29 rfl (fun w hw => (hw.bcell (i := 1) rfl).trans rfl)) rfl hT (al_take (i := 4) rfl (by kernel_rfl) (by kernel_rfl) (by kernel_rfl) rfl (fun _ _ _ h => h) (op_move rfl) rfl (al_take (i := 5) rfl (by kernel_rfl) (by kernel_rfl) (by kernel_rfl) rfl (fun _ _ _ h => h) (op_indexN sl_29 rfl rfl (by omega) hoM) rfl (al_take (i := 6) rfl (by kernel_rfl) (by kernel_rfl) (by kernel_rfl) rfl (fun _ _ _ h => h) (op_fieldAddr fld_46_2 rfl) rfl (al_load (i := 7) rfl (by kernel_rfl) (by kernel_rfl) (by kernel_rfl) rfl (fun _ _ _ h => h) (by exact op_load1 one_26 rfl (fun w hw => hw.gcell (hc9 2 _ rfl))) rfl hT ?_)))))))
  refine al_load (i := 8) rfl (by kernel_rfl) (by kernel_rfl) (by kernel_rfl) rfl (fun _ _ _ h => h) (by exact op_loadN agg_28 rfl (by rfl) (fun w hw k u hk => (hw.bcell (i := 0) rfl).trans hk)) rfl hT (al_take (i := 9) rfl (by kernel_rfl) (by kernel_rfl) (by kernel_rfl) rfl (fun _ _ _ h => h) (op_move rfl) rfl (al_take (i := 10) rfl (by kernel_rfl) (by kernel_rfl) (by kernel_rfl) rfl (fun _ _ _ h => h) (op_move rfl) rfl (al_take (i := 11) rfl (by kernel_rfl) (by kernel_rfl) (by kernel_rfl) rfl (fun _ _ _ h => h) (op_indexN sl_29 rfl rfl (by simpa using hlt) hoN) rfl (al_take (i := 12) rfl (by kernel_rfl) (by kernel_rfl) (by kernel_rfl) rfl (fun _ _ _ h => h) (op_fieldAddr fld_46_2 rfl) rfl (al_load (i := 13) rfl (by kernel_rfl) (by kernel_rfl) (by kernel_rfl) rfl (fun _ _ _ h => h) (by exact op_load1 one_26 rfl (fun w hw => hw.gcell (hc8 2 _ rfl))) rfl hT (al_take (i := 14) rfl (by kernel_rfl) (by kernel_rfl) (by kernel_rfl) rfl (fun _ _ _ h => h) (op_move rfl) rfl ?_))))))
  refine al_step (i := 15) rfl (by kernel_rfl) rfl (op_call_sc hS cf_24 rfl (R09_Alike_c _ _ hS.hold _ _ cs (cellsM to cs) tr (trailM to tr) 400 400 (heap_ hC hTr) (heap_ hCe hTe) hsh hok.rank hok2.slots.ok hok2.rank hn6 (by omega) _ _ _ ms[k].roots (toI to ms[k].roots) to hr9 hr8 hV hal1)) ?_
  clear hS
  rintro _ w ⟨rfl, hS⟩
  have hT := hT.back hS (by first | exact Le.refl _ | assumption) (fun x hx => by try simp only [bkA, bkB, bkC, bkD, bkE] at hx; (rcases hx with rfl | rfl) <;> simp)
  refine ⟨fun _ _ => hT, ?_⟩
  refine al_take (i := 16) rfl (by kernel_rfl) (by kernel_rfl) (by kernel_rfl) rfl (fun _ _ _ h => h) (op_not rfl) rfl (al_done (by kernel_rfl) (pq_then (cw_cond_f rfl (cw_skip (pq_in_normal (pq_then (cw_region ?_)))))))
  refine ol_pure rfl (op_move rfl) (ol_pure rfl (op_add rfl rfl (by omega) (by omega)) (ol_pure rfl (op_assign rfl) (ol_nil ?_)))
  refine pq_loop _ _ (by exact ⟨k + 1, rfl, by omega, rfl, hS⟩) ((Sub.cons rfl (Sub.cons rfl (Sub.cons rfl (Sub.cons rfl (Sub.cons rfl (Sub.cons rfl Sub.nil))))))) (by omega)
 ·
  try simp only [dqT, dqF, dq1, dq2, dq3, dq4, dq5] at h68
  refine cw_exit (pq_exit (pq_exit (pq_in_exit (pq_then (cw_seq (cw_region (ol_pure rfl (op_move rfl) ?_)))))))
  refine ol_pure rfl (op_assign rfl) (ol_nil (pq_then (cw_ret (ret1 rfl rfl ?_))))
  exact hS.sc_b rfl
end Go.Proofs.Ytnmkffkalnkbbaa.K
