/-
  GcTrail: its walk.
  No condition but the premises that each theorem names.
-/
import Derived.Test.YtnmkffkalnkbbaaGcom
namespace Go.Proofs.Ytnmkffkalnkbbaa.K
open Go Go.RowKit
set_option linter.unusedVariables false
set_option linter.unusedSimpArgs false

open Pl
theorem trail_one {to : List Int} {x : Int} (h : 0 ≤ x ∧ x < to.length) : trailM to [x] = if 0 ≤ valI to x then [valI to x] else [] := by
  unfold trailM toI
  rw [List.map_cons, List.map_nil, if_pos h, some_cons]
  rfl
theorem trail_succ {to tr : List Int} {k : Nat} (hk : k < tr.length) (h : 0 ≤ tr[k] ∧ tr[k] < to.length) : trailM to (tr.take (k + 1)) = trailM to (tr.take k) ++ if 0 ≤ valI to tr[k] then [valI to tr[k]] else [] := by
  rw [List.take_succ_eq_append_getElem hk, trail_app, trail_one h]
theorem trail_get {to tr : List Int} {k : Nat} (hk : k < tr.length) (h : 0 ≤ tr[k] ∧ tr[k] < to.length) (h0 : 0 ≤ valI to tr[k]) : ∃ hm : (trailM to (tr.take k)).length < (trailM to tr).length, (trailM to tr)[(trailM to (tr.take k)).length] = valI to tr[k] := by
  have h1 := trail_succ hk h
  rw [if_pos h0] at h1
  have h2 : trailM to tr = (trailM to (tr.take k) ++ [valI to tr[k]]) ++ trailM to (tr.drop (k + 1)) := by
    rw [← h1, ← trail_app, List.take_append_drop]
  have hl : (trailM to (tr.take k)).length < (trailM to tr).length := by rw [h2]; simp
  refine ⟨hl, ?_⟩
  have h3 : (trailM to tr)[(trailM to (tr.take k)).length]? = some (valI to tr[k]) := by
    rw [h2, List.append_assoc, List.getElem?_append_right (Nat.le_refl _), Nat.sub_self]
    rfl
  exact (List.getElem?_eq_some_iff.1 h3).2

set_option maxRecDepth 100000 in
set_option maxHeartbeats 4000000 in

theorem L09_GcTrail_c (G : GH) (w0 : World) (hG : Holds G w0) (v : Value) (l : List (Int × List Cell × Int × Int)) (h1 : RSl 4 EOp G v l) (mask : Int) (hm0 : 0 ≤ mask ∧ mask ≤ 4294967295)  :
   Calls Try.prog 9 #[v, .int .u32 mask] w0 (Sc w0 (.bool true)) := by
 refine enter Try.func9 rfl (N := 167) rfl (Nat.le_of_ble_eq_true rfl) ?_
 have hS := SS.init hG
 refine cw_seq (cw_region (ol_pure rfl (op_assign rfl) (ol_nil (pq_then (cw_seq (cw_region ?_))))))
 refine ol_step rfl (op_call_sc hS cf_11 rfl (L09_head_c G _ hS.hold)) ?_
 clear hS
 rintro _ w ⟨rfl, hS⟩
 refine ol_pure rfl (op_assign rfl) (ol_nil (pq_then (cw_seq (cw_region (ol_pure rfl (op_move rfl) ?_)))))
 refine ol_step rfl (op_call_rt hS cf_12 rfl (fun _ => .inr rfl) (fun _ _ _ hl ⟨cs, tr, ats, ms, vars, h1, h2⟩ => ⟨cs, tr, ats, ms, vars, h1.mono hl, h2⟩) (R09_Made_c _ _ hS.hold v l h1)) ?_
 clear hS
 rintro v21 w ⟨Gm, hl21, hR21, hS⟩
 obtain ⟨cs, tr, ats, ms, vars, ⟨oc, cc, ot, ct, oA, cA, oM, cM, rfl, hC, hTr, hA, hM⟩, hMd⟩ := hR21
 have hok := hMd.ok
 have hsh := hok.slots.ok
 have hn4 := hMd.few
 have htl := hok.trl
 have hal := hMd.atl
 have hml := hMd.msl
 have hn6 : cs.length ≤ 1000000 := by omega
 have hmr : ∀ m ∈ ms, m.roots.length ≤ 1000 := fun m hm => by have := (hMd.mks m hm).2.1; omega
 have hmk : ∀ m ∈ ms, MkOk cs.length tr.length m := fun m hm => (hMd.mks m hm).1
 have hmin : ∀ m ∈ ms, ∀ x ∈ m.roots, 0 ≤ x ∧ x < cs.length := fun m hm x hx => by
   have h1 := (hMd.mks m hm).2.2.1 x hx
   have h2 := hmk m hm
   unfold MkOk at h2
   omega
 refine ol_step rfl (op_alloc hS el_31 rfl) ?_
 clear hS
 rintro _ w ⟨b6, rfl, hS⟩
 refine ol_step0  (op_storeN (j := 0) hS sz_31 rfl rfl rfl rfl rfl (by simp [Value.oneCell'])) ?_
 clear hS
 rintro _ w hS; (try simp only [List.nil_append, List.cons_append, List.set] at hS)
 refine ol_nil (pq_then (cw_seq (cw_region (ol_load rfl (op_loadN agg_31 rfl (by rfl) (fun w hw k u hk => (hw.bcell (i := 0) rfl).trans hk)) hS (ol_pure rfl (op_move rfl) ?_)))))
 refine ol_step rfl (op_call_fr hS cf_13 rfl (R09_Roots_c _ _ hS.hold oc ot cs.length cc tr.length ct 400 _ ats hA oM ms.length cM (by omega) (mask) (hm0.1))) ?_
 clear hS
 rintro v24 w ⟨F24, Gr, hR24, hF24, hf24, hl24, hS⟩
 obtain ⟨roots, hR, hrl, hrm, hrm2⟩ := hR24
 obtain ⟨oR, cR, rfl, _, _⟩ := hR.elim
 replace hR := hR.mono EInt.mono hf24
 have hrin : ∀ x ∈ roots, x = -1 ∨ (0 ≤ x ∧ x < cs.length) := fun x hx => (hrm x hx).elim (fun h => .inr (hMd.at_ x h)) .inl
 obtain ⟨to, hto⟩ : ∃ to, to = movedI (liveB cs (allI roots ms)) := ⟨_, rfl⟩
 have htc : to = toC cs (allI roots ms) := hto
 have htol : to.length = cs.length := by rw [hto, movedI_len, liveB_len]
 replace hC := hC.mono ECell.mono hl24
 replace hTr := hTr.mono EInt.mono hl24
 replace hA := hA.mono EInt.mono hl24
 replace hM := hM.mono EMk.mono hl24
 (try replace hcur := hcur.trans hl24)
 refine ol_pure rfl (op_assign rfl) (ol_nil (pq_then (cw_seq (cw_region (ol_pure rfl (op_fieldAddr fld_31_0 rfl) (ol_load rfl (op_loadBS (i := 0) (o := 0) (vs := [.slice oc cs.length cc, .slice ot tr.length ct, .int .i64 400]) agg_28 rfl rfl rfl rfl) hS (ol_pure rfl (op_move rfl) ?_)))))))
 refine ol_pure rfl (op_fieldAddr fld_31_2 rfl) (ol_load rfl (op_load1 one_29 rfl (fun w hw => (hw.bcell (i := 0) rfl).trans rfl)) hS ?_)
 refine ol_step rfl (op_call_rt hS cf_16 rfl (fun _ => .inl rfl) (ColR.mono) (gc_Collect_c _ _ hS.hold _ cs tr 400 (heap_ hC hTr) hsh hn6 _ roots hR _ ms hM (by omega) (by omega) hmr hmk (by omega) (by omega) (by omega))) ?_
 clear hS
 rintro v31 w ⟨G31, hl31, hR31, hS⟩
 rw [← hto] at hR31
 obtain ⟨oce, cce, ote, cte, oRe, cRe, oMe, cMe, rfl, hCe, hTe, hRe, hMe⟩ := colX hR31 rfl rfl rfl rfl
 replace hC := hC.mono ECell.mono hl31
 replace hTr := hTr.mono EInt.mono hl31
 replace hA := hA.mono EInt.mono hl31
 replace hM := hM.mono EMk.mono hl31
 replace hR := hR.mono EInt.mono hl31
 (try replace hcur := hcur.trans hl31)
 refine ol_pure rfl (op_move rfl) (ol_pure rfl (op_extract (vs := [.agg #[.slice oce (cellsM to cs).length cce, .slice ote (trailM to tr).length cte, .int .i64 400], .slice oRe (toI to roots).length cRe, .slice oMe (ms.map (markM to tr)).length cMe]) rfl rfl) (ol_pure rfl (op_extract (vs := [.agg #[.slice oce (cellsM to cs).length cce, .slice ote (trailM to tr).length cte, .int .i64 400], .slice oRe (toI to roots).length cRe, .slice oMe (ms.map (markM to tr)).length cMe]) rfl rfl) (ol_pure rfl (op_extract (vs := [.agg #[.slice oce (cellsM to cs).length cce, .slice ote (trailM to tr).length cte, .int .i64 400], .slice oRe (toI to roots).length cRe, .slice oMe (ms.map (markM to tr)).length cMe]) rfl rfl) ?_)))
 refine ol_step rfl (op_alloc hS el_28 rfl) ?_
 clear hS
 rintro _ w ⟨b8, rfl, hS⟩
 refine ol_step0  (op_storeN (j := 0) hS sz_28 rfl rfl rfl rfl rfl (by simp [Value.oneCell'])) ?_
 clear hS
 rintro _ w hS; (try simp only [List.nil_append, List.cons_append, List.set] at hS)
 refine ol_pure rfl (op_assign rfl) (ol_pure rfl (op_assign rfl) (ol_nil (pq_then (cw_seq (cw_region (ol_pure rfl (op_fieldAddr fld_31_0 rfl) (ol_load rfl (op_loadBS (i := 1) (o := 0) (vs := [.slice oc cs.length cc, .slice ot tr.length ct, .int .i64 400]) agg_28 rfl rfl rfl rfl) hS ?_)))))))
 refine ol_pure rfl (op_move rfl) (ol_pure rfl (op_fieldAddr fld_31_2 rfl) (ol_load rfl (op_load1 one_29 rfl (fun w hw => (hw.bcell (i := 1) rfl).trans rfl)) hS ?_))
 refine ol_step rfl (op_call_fr hS cf_21 rfl (gc_Moved_c _ _ hS.hold _ cs tr 400 (heap_ hC hTr) hsh hn6 _ roots hR _ ms hM (by omega) (by omega) hmr)) ?_
 clear hS
 rintro v40 w ⟨F40, G40, hR40, hF40, hf40, hl40, hS⟩
 rw [← hto] at hR40
 obtain ⟨oV, coV, rfl, _, _⟩ := hR40.elim
 have hV := hR40.mono EInt.mono hf40
 replace hC := hC.mono ECell.mono hl40
 replace hTr := hTr.mono EInt.mono hl40
 replace hA := hA.mono EInt.mono hl40
 replace hM := hM.mono EMk.mono hl40
 replace hR := hR.mono EInt.mono hl40
 replace hCe := hCe.mono ECell.mono hl40
 replace hTe := hTe.mono EInt.mono hl40
 replace hRe := hRe.mono EInt.mono hl40
 replace hMe := hMe.mono EMk.mono hl40
 (try replace hcur := hcur.trans hl40)
 have hrg := hok.range
 have hml2 : (ms.map (markM to tr)).length = ms.length := by simp
 refine ol_pure rfl (op_assign rfl) (ol_pure rfl (op_assign rfl) (ol_nil (pq_then (cw_seq (cw_seq (cw_region (ol_pure rfl (op_move rfl) ?_)))))))
 refine ol_pure rfl (op_len sl_26 rfl rfl) (ol_pure rfl (op_fieldAddr fld_31_0 rfl) (ol_pure rfl (op_fieldAddr2 (o := 0) (q := 0) fld_28_0 rfl (by decide)) (ol_load rfl (op_load1 one_25 rfl (fun w hw => (hw.bcell (i := 1) rfl).trans rfl)) hS (ol_pure rfl (op_len sl_25 rfl rfl) (ol_pure rfl (op_neqF rfl rfl (by omega)) (ol_pure rfl (op_move rfl) (ol_guard_pure rfl rfl rfl (op_move rfl) ?_)))))))
 refine ol_guard_pure rfl rfl rfl (op_len sl_29 rfl rfl) (ol_guard_pure rfl rfl rfl (op_fieldAddr fld_31_2 rfl) (ol_guard_load rfl rfl rfl (op_load1 one_29 rfl (fun w hw => (hw.bcell (i := 1) rfl).trans rfl)) hS (ol_guard_pure rfl rfl rfl (op_len sl_29 rfl rfl) (ol_guard_pure rfl rfl rfl (op_neqF rfl rfl (by omega)) (ol_pure rfl (op_pick_f rfl rfl) (ol_nil (pq_then ?_)))))))
 refine cw_cond_f rfl (cw_skip (pq_then (cw_seq (cw_seq (cw_region (ol_pure rfl (op_assign rfl) (ol_nil ?_)))))))
 refine pq_then (cw_block ?_)
 refine cw_loop (fun e w n => ∃ (k m : Nat), e = [(5, .bool true), (6, .pointer (some ⟨b6, 0, none⟩)), (8, .pointer (some ⟨b8, 0, none⟩)), (10, .slice oMe (ms.map (markM to tr)).length cMe), (11, .slice oV to.length coV), (12, .int .i64 (m : Nat)), (13, .int .i64 (k : Nat))] ∧ k ≤ tr.length ∧ n = tr.length - k ∧ m = (trailM to (tr.take k)).length ∧ m ≤ k ∧ SS G w0 G40 [.blk b8 28 [.slice oce (cellsM to cs).length cce, .slice ote (trailM to tr).length cte, .int .i64 400], .blk b6 31 [.slice oc cs.length cc, .slice ot tr.length ct, .int .i64 400, .slice oA ats.length cA, .slice oM ms.length cM]] w) _ _ (by exact ⟨0, 0, rfl, Nat.zero_le _, rfl, rfl, Nat.le_refl _, hS⟩) ((Sub.cons rfl (Sub.cons rfl (Sub.cons rfl (Sub.cons rfl (Sub.cons rfl (Sub.cons rfl (Sub.cons rfl Sub.nil)))))))) ?_
 clear hS
 rintro e w n ⟨k, m, rfl, hk, rfl, hm, hmk2, hS⟩
 refine cw_seq (cw_seq (cw_region (ol_pure rfl (op_move rfl) (ol_pure rfl (op_fieldAddr fld_31_0 rfl) (ol_pure rfl (op_fieldAddr2 (o := 0) (q := 1) fld_28_1 rfl (by decide)) (ol_load rfl (op_load1 one_26 rfl (fun w hw => (hw.bcell (i := 1) rfl).trans rfl)) hS (ol_pure rfl (op_len sl_26 rfl rfl) ?_)))))))
 refine ol_pure rfl (op_lss rfl rfl) (ol_nil (pq_then ?_))
 refine cw_cond rfl (fun h61 => ?_) (fun h61 => ?_)
 ·
  try simp only [dqT, dqF, dq1, dq2, dq3, dq4, dq5] at h61
  have hlt : k < tr.length := by omega
  obtain ⟨hoT, hcT, _⟩ := hTr.int hlt
  have hx := hrg _ (List.getElem_mem hlt)
  obtain ⟨q, hq⟩ := Int.eq_ofNat_of_zero_le hx.1
  rw [hq] at hcT
  have hql : q < to.length := by omega
  obtain ⟨hoV, hcV, _⟩ := hV.int hql
  have hvt := valI_at hql
  have hxr : 0 ≤ tr[k] ∧ tr[k] < to.length := by omega
  have hts := trail_succ (to := to) hlt hxr
  rw [hq, hvt] at hts
  refine cw_skip (pq_then (cw_seq (cw_block (cw_seq (cw_seq (cw_region (ol_pure rfl (op_move rfl) ?_)))))))
  refine ol_pure rfl (op_fieldAddr fld_31_0 rfl) (ol_pure rfl (op_fieldAddr2 (o := 0) (q := 1) fld_28_1 rfl (by decide)) (ol_load rfl (op_load1 one_26 rfl (fun w hw => (hw.bcell (i := 1) rfl).trans rfl)) hS (ol_pure rfl (op_move rfl) (ol_pure rfl (op_indexN sl_26 rfl rfl (by omega) hoT) (ol_load rfl (op_load1 one_3 rfl (fun w hw => hw.gcell hcT)) hS (ol_pure rfl (op_indexN sl_26 rfl rfl hql hoV) (ol_load rfl (op_load1 one_3 rfl (fun w hw => hw.gcell hcV)) hS ?_)))))))
  refine ol_pure rfl (op_lss rfl rfl) (ol_nil (pq_then ?_))
  refine cw_cond rfl (fun h73 => ?_) (fun h73 => ?_)
  ·
   try simp only [dqT, dqF, dq1, dq2, dq3, dq4, dq5] at h73
   rw [if_neg (by omega), List.append_nil] at hts
   refine cw_exit (pq_exit (pq_in_exit (pq_then (cw_region (ol_pure rfl (op_move rfl) (ol_pure rfl (op_add rfl rfl (by omega) (by omega)) (ol_pure rfl (op_assign rfl) ?_)))))))
   refine ol_nil ?_
   refine pq_loop _ _ (by exact ⟨k + 1, m, rfl, by omega, rfl, by rw [hts, hm], by omega, hS⟩) ((Sub.cons rfl (Sub.cons rfl (Sub.cons rfl (Sub.cons rfl (Sub.cons rfl (Sub.cons rfl (Sub.cons rfl Sub.nil)))))))) (by omega)
  ·
   try simp only [dqT, dqF, dq1, dq2, dq3, dq4, dq5] at h73
   obtain ⟨hn1, hgn⟩ := trail_get (to := to) hlt hxr (by rw [hq, hvt]; omega)
   rw [hq, hvt] at hgn
   rw [if_pos (by omega)] at hts
   rw [← hm] at hn1
   have hgn2 : (trailM to tr)[m] = to[q] := by simp only [hm]; exact hgn
   obtain ⟨hoE, hcE, _⟩ := hTe.int hn1
   rw [hgn2] at hcE
   refine cw_skip (pq_then (cw_seq (cw_seq ?_)))
   refine al_start' hS (hS.take 2) (by kernel_rfl) rfl (fun w hS hT => ?_)
   refine al_take (i := 0) rfl (by kernel_rfl) (by kernel_rfl) (by kernel_rfl) rfl (fun _ _ _ h => h) (op_move rfl) rfl (al_take (i := 1) rfl (by kernel_rfl) (by kernel_rfl) (by kernel_rfl) rfl (fun _ _ _ h => h) (op_fieldAddr fld_28_1 rfl) rfl (al_load (i := 2) rfl (by kernel_rfl) (by kernel_rfl) (by kernel_rfl) rfl (fun _ _ _ h => h) (by exact op_load1 one_26 rfl (fun w hw => (hw.bcell (i := 0) rfl).trans rfl)) rfl hT (al_take (i := 3) rfl (by kernel_rfl) (by kernel_rfl) (by kernel_rfl) rfl (fun _ _ _ h => h) (op_len sl_26 rfl rfl) rfl (al_take (i := 4) rfl (by kernel_rfl) (by kernel_rfl) (by kernel_rfl) rfl (fun _ _ _ h => h) (op_val (v' := .bool false) (op_geq rfl rfl) (congrArg Value.bool (decide_eq_false (by omega)))) rfl (al_take (i := 5) rfl (by kernel_rfl) (by kernel_rfl) (by kernel_rfl) rfl (fun _ _ _ h => h) (op_move rfl) rfl (al_gtake (i := 6) rfl (by kernel_rfl) (by kernel_rfl) (by kernel_rfl) rfl rfl rfl (fun _ _ _ h => h) (op_fieldAddr fld_28_1 rfl) rfl (al_gload (i := 7) rfl (by kernel_rfl) (by kernel_rfl) (by kernel_rfl) rfl rfl rfl (fun _ _ _ h => h) (by exact op_load1 one_26 rfl (fun w hw => (hw.bcell (i := 0) rfl).trans rfl)) rfl hT ?_)))))))
   refine al_gtake (i := 8) rfl (by kernel_rfl) (by kernel_rfl) (by kernel_rfl) rfl rfl rfl (fun _ _ _ h => h) (op_move rfl) rfl (al_gtake (i := 9) rfl (by kernel_rfl) (by kernel_rfl) (by kernel_rfl) rfl rfl rfl (fun _ _ _ h => h) (op_indexN sl_26 rfl rfl (by omega) hoE) rfl (al_gload (i := 10) rfl (by kernel_rfl) (by kernel_rfl) (by kernel_rfl) rfl rfl rfl (fun _ _ _ h => h) (by exact op_load1 one_3 rfl (fun w hw => hw.gcell hcE)) rfl hT (al_gtake (i := 11) rfl (by kernel_rfl) (by kernel_rfl) (by kernel_rfl) rfl rfl rfl (fun _ _ _ h => h) (op_move rfl) rfl (al_gtake (i := 12) rfl (by kernel_rfl) (by kernel_rfl) (by kernel_rfl) rfl rfl rfl (fun _ _ _ h => h) (op_fieldAddr fld_31_0 rfl) rfl (al_gtake (i := 13) rfl (by kernel_rfl) (by kernel_rfl) (by kernel_rfl) rfl rfl rfl (fun _ _ _ h => h) (op_fieldAddr2 (o := 0) (q := 1) fld_28_1 rfl (by decide)) rfl (al_gload (i := 14) rfl (by kernel_rfl) (by kernel_rfl) (by kernel_rfl) rfl rfl rfl (fun _ _ _ h => h) (by exact op_load1 one_26 rfl (fun w hw => (hw.bcell (i := 1) rfl).trans rfl)) rfl hT (al_gtake (i := 15) rfl (by kernel_rfl) (by kernel_rfl) (by kernel_rfl) rfl rfl rfl (fun _ _ _ h => h) (op_move rfl) rfl ?_)))))))
   refine al_gtake (i := 16) rfl (by kernel_rfl) (by kernel_rfl) (by kernel_rfl) rfl rfl rfl (fun _ _ _ h => h) (op_indexN sl_26 rfl rfl (by omega) hoT) rfl (al_gload (i := 17) rfl (by kernel_rfl) (by kernel_rfl) (by kernel_rfl) rfl rfl rfl (fun _ _ _ h => h) (by exact op_load1 one_3 rfl (fun w hw => hw.gcell hcT)) rfl hT (al_gtake (i := 18) rfl (by kernel_rfl) (by kernel_rfl) (by kernel_rfl) rfl rfl rfl (fun _ _ _ h => h) (op_indexN sl_26 rfl rfl hql hoV) rfl (al_gload (i := 19) rfl (by kernel_rfl) (by kernel_rfl) (by kernel_rfl) rfl rfl rfl (fun _ _ _ h => h) (by exact op_load1 one_3 rfl (fun w hw => hw.gcell hcV)) rfl hT (al_gtake (i := 20) rfl (by kernel_rfl) (by kernel_rfl) (by kernel_rfl) rfl rfl rfl (fun _ _ _ h => h) (op_neqF rfl rfl (rfl)) rfl (al_take (i := 21) rfl (by kernel_rfl) (by kernel_rfl) (by kernel_rfl) rfl (fun _ _ _ h => h) (op_pick_f rfl rfl) rfl (al_done (by kernel_rfl) (pq_then ?_)))))))
   refine cw_cond_f rfl (cw_skip (pq_then (cw_region (ol_pure rfl (op_move rfl) (ol_pure rfl (op_add rfl rfl (by omega) (by omega)) (ol_pure rfl (op_assign rfl) (ol_nil ?_)))))))
   refine pq_in_normal (pq_then (cw_region (ol_pure rfl (op_move rfl) (ol_pure rfl (op_add rfl rfl (by omega) (by omega)) (ol_pure rfl (op_assign rfl) (ol_nil ?_))))))
   refine pq_loop _ _ (by exact ⟨k + 1, m + 1, rfl, by omega, rfl, by rw [hts, hm]; simp, by omega, hS⟩) ((Sub.cons rfl (Sub.cons rfl (Sub.cons rfl (Sub.cons rfl (Sub.cons rfl (Sub.cons rfl (Sub.cons rfl Sub.nil)))))))) (by omega)
 ·
  try simp only [dqT, dqF, dq1, dq2, dq3, dq4, dq5] at h61
  refine cw_exit (pq_exit (pq_exit (pq_in_exit (pq_then (cw_seq (cw_seq (cw_region ?_)))))))
  refine ol_pure rfl (op_assign rfl) (ol_nil (pq_then (cw_block ?_)))
  obtain rfl : k = tr.length := by omega
  rw [List.take_length] at hm
  have hmt := hm
  clear hm
  refine cw_loop (fun e w n => ∃ (j : Nat), e = [(5, .bool true), (6, .pointer (some ⟨b6, 0, none⟩)), (8, .pointer (some ⟨b8, 0, none⟩)), (10, .slice oMe (ms.map (markM to tr)).length cMe), (11, .slice oV to.length coV), (12, .int .i64 (m : Nat)), (14, .int .i64 (j : Nat))] ∧ j ≤ ms.length ∧ n = ms.length - j ∧ SS G w0 G40 [.blk b8 28 [.slice oce (cellsM to cs).length cce, .slice ote (trailM to tr).length cte, .int .i64 400], .blk b6 31 [.slice oc cs.length cc, .slice ot tr.length ct, .int .i64 400, .slice oA ats.length cA, .slice oM ms.length cM]] w) _ _ (by exact ⟨0, rfl, Nat.zero_le _, rfl, hS⟩) ((Sub.cons rfl (Sub.cons rfl (Sub.cons rfl (Sub.cons rfl (Sub.cons rfl (Sub.cons rfl (Sub.cons rfl Sub.nil)))))))) ?_
  clear hS
  rintro e w n ⟨j, rfl, hj, rfl, hS⟩
  refine cw_seq (cw_seq (cw_region (ol_pure rfl (op_move rfl) (ol_pure rfl (op_move rfl) (ol_pure rfl (op_val (v' := .int .i64 (ms.length : Nat)) (op_len sl_29 rfl rfl) (by rw [hml2])) (ol_pure rfl (op_lss rfl rfl) (ol_nil ?_)))))))
  refine pq_then ?_
  refine cw_cond rfl (fun h101 => ?_) (fun h101 => ?_)
  ·
   try simp only [dqT, dqF, dq1, dq2, dq3, dq4, dq5] at h101
   have hjl : j < ms.length := by omega
   obtain ⟨hom, o9, d9, hr9, hb9, hc9⟩ := hM.mkAt hjl
   obtain ⟨hoN, o8, d8, hr8, hc8⟩ := hMe.mkM hjl
   have hmo := hmk _ (List.getElem_mem hjl)
   unfold MkOk at hmo
   refine cw_skip (pq_then (cw_seq (cw_block (cw_seq (cw_region (ol_pure rfl (op_assign rfl) (ol_pure rfl (op_assign rfl) ?_)))))))
   refine ol_nil (pq_then (cw_seq (cw_seq (cw_region (ol_pure rfl (op_assign rfl) (ol_nil (pq_then ?_)))))))
   refine cw_block ?_
   refine cw_loop (fun e w n => ∃ (i c : Nat), e = [(5, .bool true), (6, .pointer (some ⟨b6, 0, none⟩)), (8, .pointer (some ⟨b8, 0, none⟩)), (10, .slice oMe (ms.map (markM to tr)).length cMe), (11, .slice oV to.length coV), (12, .int .i64 (m : Nat)), (14, .int .i64 (j : Nat)), (15, .int .i64 (c : Nat)), (16, .int .i64 (0)), (17, .int .i64 (i : Nat))] ∧ (i : Int) ≤ ms[j].cells ∧ n = ms[j].cells.toNat - i ∧ c = (someI (to.take i)).length ∧ c ≤ i ∧ SS G w0 G40 [.blk b8 28 [.slice oce (cellsM to cs).length cce, .slice ote (trailM to tr).length cte, .int .i64 400], .blk b6 31 [.slice oc cs.length cc, .slice ot tr.length ct, .int .i64 400, .slice oA ats.length cA, .slice oM ms.length cM]] w) _ _ (by exact ⟨0, 0, rfl, by omega, rfl, rfl, Nat.le_refl _, hS⟩) ((Sub.cons rfl (Sub.cons rfl (Sub.cons rfl (Sub.cons rfl (Sub.cons rfl (Sub.cons rfl (Sub.cons rfl (Sub.cons rfl (Sub.cons rfl (Sub.cons rfl Sub.nil))))))))))) ?_
   clear hS
   rintro e w n ⟨i, c, rfl, hi, rfl, hc, hci, hS⟩
   refine cw_seq (cw_seq (cw_region (ol_pure rfl (op_move rfl) (ol_pure rfl (op_fieldAddr fld_31_2 rfl) (ol_load rfl (op_load1 one_29 rfl (fun w hw => (hw.bcell (i := 1) rfl).trans rfl)) hS (ol_pure rfl (op_move rfl) (ol_pure rfl (op_indexN sl_29 rfl rfl (by omega) hom) ?_)))))))
   refine ol_pure rfl (op_fieldAddr fld_46_0 rfl) (ol_load rfl (op_load1 one_3 rfl (fun w hw => hw.gcell (hc9 0 _ rfl))) hS (ol_pure rfl (op_lss rfl rfl) (ol_nil (pq_then ?_))))
   refine cw_cond rfl (fun h111 => ?_) (fun h111 => ?_)
   ·
    try simp only [dqT, dqF, dq1, dq2, dq3, dq4, dq5] at h111
    have hil : i < to.length := by omega
    obtain ⟨hoI, hcI, _⟩ := hV.int hil
    have hsi := someI_succ hil
    refine cw_skip (pq_then (cw_seq (cw_block (cw_seq (cw_region (ol_pure rfl (op_move rfl) (ol_pure rfl (op_move rfl) ?_)))))))
    refine ol_pure rfl (op_indexN sl_26 rfl rfl (by omega) hoI) (ol_load rfl (op_load1 one_3 rfl (fun w hw => hw.gcell hcI)) hS (ol_pure rfl (op_geq rfl rfl) (ol_nil (pq_then ?_))))
    refine cw_cond rfl (fun h118 => ?_) (fun h118 => ?_)
    ·
     try simp only [dqT, dqF, dq1, dq2, dq3, dq4, dq5] at h118
     rw [if_pos (by omega)] at hsi
     have hsl := congrArg List.length hsi
     rw [List.length_append, List.length_singleton] at hsl
     refine cw_region (ol_pure rfl (op_move rfl) (ol_pure rfl (op_add rfl rfl (by omega) (by omega)) (ol_pure rfl (op_assign rfl) (ol_nil (pq_in_normal (pq_then (cw_region ?_)))))))
     refine ol_pure rfl (op_move rfl) (ol_pure rfl (op_add rfl rfl (by omega) (by omega)) (ol_pure rfl (op_assign rfl) (ol_nil ?_)))
     refine pq_loop _ _ (by exact ⟨i + 1, c + 1, rfl, by omega, rfl, by omega, by omega, hS⟩) ((Sub.cons rfl (Sub.cons rfl (Sub.cons rfl (Sub.cons rfl (Sub.cons rfl (Sub.cons rfl (Sub.cons rfl (Sub.cons rfl (Sub.cons rfl (Sub.cons rfl Sub.nil))))))))))) (by omega)
    ·
     try simp only [dqT, dqF, dq1, dq2, dq3, dq4, dq5] at h118
     rw [if_neg (by omega), List.append_nil] at hsi
     have hsl := congrArg List.length hsi
     refine cw_skip (pq_in_normal (pq_then (cw_region (ol_pure rfl (op_move rfl) (ol_pure rfl (op_add rfl rfl (by omega) (by omega)) (ol_pure rfl (op_assign rfl) (ol_nil ?_)))))))
     refine pq_loop _ _ (by exact ⟨i + 1, c, rfl, by omega, rfl, by omega, by omega, hS⟩) ((Sub.cons rfl (Sub.cons rfl (Sub.cons rfl (Sub.cons rfl (Sub.cons rfl (Sub.cons rfl (Sub.cons rfl (Sub.cons rfl (Sub.cons rfl (Sub.cons rfl Sub.nil))))))))))) (by omega)
   ·
    try simp only [dqT, dqF, dq1, dq2, dq3, dq4, dq5] at h111
    refine cw_exit (pq_exit (pq_exit (pq_in_exit (pq_then (cw_seq (cw_seq (cw_region ?_)))))))
    refine ol_pure rfl (op_assign rfl) (ol_nil (pq_then (cw_block ?_)))
    refine cw_loop (fun e w n => ∃ (i c i2 c2 : Nat), e = [(5, .bool true), (6, .pointer (some ⟨b6, 0, none⟩)), (8, .pointer (some ⟨b8, 0, none⟩)), (10, .slice oMe (ms.map (markM to tr)).length cMe), (11, .slice oV to.length coV), (12, .int .i64 (m : Nat)), (14, .int .i64 (j : Nat)), (15, .int .i64 (c2 : Nat)), (16, .int .i64 (c : Nat)), (18, .int .i64 (i : Nat))] ∧ (i : Int) ≤ ms[j].trail ∧ n = ms[j].trail.toNat - i ∧ c = (trailM to (tr.take i)).length ∧ c ≤ i ∧ c2 = (someI (to.take i2)).length ∧ (i2 : Int) = ms[j].cells ∧ SS G w0 G40 [.blk b8 28 [.slice oce (cellsM to cs).length cce, .slice ote (trailM to tr).length cte, .int .i64 400], .blk b6 31 [.slice oc cs.length cc, .slice ot tr.length ct, .int .i64 400, .slice oA ats.length cA, .slice oM ms.length cM]] w) _ _ (by exact ⟨0, 0, i, c, rfl, by omega, rfl, rfl, Nat.le_refl _, hc, by omega, hS⟩) ((Sub.cons rfl (Sub.cons rfl (Sub.cons rfl (Sub.cons rfl (Sub.cons rfl (Sub.cons rfl (Sub.cons rfl (Sub.cons rfl (Sub.cons rfl (Sub.cons rfl Sub.nil))))))))))) ?_
    clear hS
    rintro e w n ⟨i, c, i2, c2, rfl, hi, rfl, hc, hci, hc2, hi2, hS⟩
    refine cw_seq (cw_seq (cw_region (ol_pure rfl (op_move rfl) (ol_pure rfl (op_fieldAddr fld_31_2 rfl) (ol_load rfl (op_load1 one_29 rfl (fun w hw => (hw.bcell (i := 1) rfl).trans rfl)) hS (ol_pure rfl (op_move rfl) (ol_pure rfl (op_indexN sl_29 rfl rfl (by omega) hom) ?_)))))))
    refine ol_pure rfl (op_fieldAddr fld_46_1 rfl) (ol_load rfl (op_load1 one_3 rfl (fun w hw => hw.gcell (hc9 1 _ rfl))) hS (ol_pure rfl (op_lss rfl rfl) (ol_nil (pq_then ?_))))
    refine cw_cond rfl (fun h128 => ?_) (fun h128 => ?_)
    ·
     try simp only [dqT, dqF, dq1, dq2, dq3, dq4, dq5] at h128
     have hlt : i < tr.length := by omega
     obtain ⟨hoT, hcT, _⟩ := hTr.int hlt
     have hx := hrg _ (List.getElem_mem hlt)
     obtain ⟨q, hq⟩ := Int.eq_ofNat_of_zero_le hx.1
     rw [hq] at hcT
     have hql : q < to.length := by omega
     obtain ⟨hoV, hcV, _⟩ := hV.int hql
     have hvt := valI_at hql
     have hxr : 0 ≤ tr[i] ∧ tr[i] < to.length := by omega
     have hts := trail_succ (to := to) hlt hxr
     rw [hq, hvt] at hts
     refine cw_skip (pq_then (cw_seq (cw_block (cw_seq (cw_region (ol_pure rfl (op_move rfl) (ol_pure rfl (op_fieldAddr fld_31_0 rfl) ?_)))))))
     refine ol_pure rfl (op_fieldAddr2 (o := 0) (q := 1) fld_28_1 rfl (by decide)) (ol_load rfl (op_load1 one_26 rfl (fun w hw => (hw.bcell (i := 1) rfl).trans rfl)) hS (ol_pure rfl (op_move rfl) (ol_pure rfl (op_indexN sl_26 rfl rfl (by omega) hoT) (ol_load rfl (op_load1 one_3 rfl (fun w hw => hw.gcell hcT)) hS (ol_pure rfl (op_indexN sl_26 rfl rfl hql hoV) (ol_load rfl (op_load1 one_3 rfl (fun w hw => hw.gcell hcV)) hS (ol_pure rfl (op_geq rfl rfl) ?_)))))))
     refine ol_nil (pq_then ?_)
     refine cw_cond rfl (fun h140 => ?_) (fun h140 => ?_)
     ·
      try simp only [dqT, dqF, dq1, dq2, dq3, dq4, dq5] at h140
      rw [if_pos (by omega)] at hts
      have hsl := congrArg List.length hts
      rw [List.length_append, List.length_singleton] at hsl
      refine cw_region (ol_pure rfl (op_move rfl) (ol_pure rfl (op_add rfl rfl (by omega) (by omega)) (ol_pure rfl (op_assign rfl) (ol_nil (pq_in_normal (pq_then (cw_region ?_)))))))
      refine ol_pure rfl (op_move rfl) (ol_pure rfl (op_add rfl rfl (by omega) (by omega)) (ol_pure rfl (op_assign rfl) (ol_nil ?_)))
      refine pq_loop _ _ (by exact ⟨i + 1, c + 1, i2, c2, rfl, by omega, rfl, by omega, by omega, hc2, hi2, hS⟩) ((Sub.cons rfl (Sub.cons rfl (Sub.cons rfl (Sub.cons rfl (Sub.cons rfl (Sub.cons rfl (Sub.cons rfl (Sub.cons rfl (Sub.cons rfl (Sub.cons rfl Sub.nil))))))))))) (by omega)
     ·
      try simp only [dqT, dqF, dq1, dq2, dq3, dq4, dq5] at h140
      rw [if_neg (by omega), List.append_nil] at hts
      have hsl := congrArg List.length hts
      refine cw_skip (pq_in_normal (pq_then (cw_region (ol_pure rfl (op_move rfl) (ol_pure rfl (op_add rfl rfl (by omega) (by omega)) (ol_pure rfl (op_assign rfl) (ol_nil ?_)))))))
      refine pq_loop _ _ (by exact ⟨i + 1, c, i2, c2, rfl, by omega, rfl, by omega, by omega, hc2, hi2, hS⟩) ((Sub.cons rfl (Sub.cons rfl (Sub.cons rfl (Sub.cons rfl (Sub.cons rfl (Sub.cons rfl (Sub.cons rfl (Sub.cons rfl (Sub.cons rfl (Sub.cons rfl Sub.nil))))))))))) (by omega)
    ·
     try simp only [dqT, dqF, dq1, dq2, dq3, dq4, dq5] at h128
     refine cw_exit (pq_exit (pq_exit (pq_in_exit (pq_then (cw_seq ?_)))))
     have e1 : i2 = ms[j].cells.toNat := by omega
     have e2 : i = ms[j].trail.toNat := by omega
     have f1 : (markM to tr ms[j]).cells = (c2 : Nat) := by rw [hc2, e1]; rfl
     have f2 : (markM to tr ms[j]).trail = (c : Nat) := by rw [hc, e2]; rfl
     refine cw_region (ol_pure rfl (op_move rfl) (ol_pure rfl (op_move rfl) (ol_pure rfl (op_indexN sl_29 rfl rfl (by omega) hoN) (ol_pure rfl (op_fieldAddr fld_46_0 rfl) (ol_load rfl (op_load1 one_3 rfl (fun w hw => hw.gcell (hc8 0 _ rfl))) hS (ol_pure rfl (op_move rfl) (ol_pure rfl (op_neqF rfl rfl (f1)) ?_)))))))
     refine ol_pure rfl (op_move rfl) (ol_guard_pure rfl rfl rfl (op_move rfl) (ol_guard_pure rfl rfl rfl (op_move rfl) (ol_guard_pure rfl rfl rfl (op_indexN sl_29 rfl rfl (by omega) hoN) (ol_guard_pure rfl rfl rfl (op_fieldAddr fld_46_1 rfl) (ol_guard_load rfl rfl rfl (op_load1 one_3 rfl (fun w hw => hw.gcell (hc8 1 _ rfl))) hS (ol_guard_pure rfl rfl rfl (op_move rfl) (ol_guard_pure rfl rfl rfl (op_neqF rfl rfl (f2)) ?_)))))))
     refine ol_pure rfl (op_pick_f rfl rfl) (ol_nil (pq_then (cw_cond_f rfl (cw_skip (pq_in_normal (pq_then (cw_region ?_)))))))
     refine ol_pure rfl (op_move rfl) (ol_pure rfl (op_add rfl rfl (by omega) (by omega)) (ol_pure rfl (op_assign rfl) (ol_nil ?_)))
     refine pq_loop _ _ (by exact ⟨j + 1, rfl, by omega, rfl, hS⟩) ((Sub.cons rfl (Sub.cons rfl (Sub.cons rfl (Sub.cons rfl (Sub.cons rfl (Sub.cons rfl (Sub.cons rfl Sub.nil)))))))) (by omega)
  ·
   try simp only [dqT, dqF, dq1, dq2, dq3, dq4, dq5] at h101
   refine cw_exit (pq_exit (pq_exit (pq_in_exit (pq_then (cw_seq (cw_region (ol_pure rfl (op_move rfl) ?_)))))))
   refine ol_pure rfl (op_fieldAddr fld_28_1 rfl) (ol_load rfl (op_load1 one_26 rfl (fun w hw => (hw.bcell (i := 0) rfl).trans rfl)) hS (ol_pure rfl (op_len sl_26 rfl rfl) (ol_pure rfl (op_eqlT rfl rfl (by rw [hmt])) (ol_pure rfl (op_move rfl) (ol_guard_pure rfl rfl rfl (op_move rfl) (ol_pure rfl (op_pick_t rfl rfl) (ol_pure rfl (op_assign rfl) ?_)))))))
   refine ol_nil (pq_then (cw_ret (ret1 rfl rfl ?_)))
   exact hS.sc_b rfl
end Go.Proofs.Ytnmkffkalnkbbaa.K
