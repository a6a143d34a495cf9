/-
  GcUndo: its walk.
  No condition but the premises that each theorem names.
-/
import Derived.Test.YtnmkffkalnkbbaaGcom
namespace Go.Proofs.Ytnmkffkalnkbbaa.K
open Go Go.RowKit
set_option linter.unusedVariables false
set_option linter.unusedSimpArgs false

open Pl
structure UndoI (cs : List Cell) (tr all to : List Int) (ms : List Mk) (k b u : Nat) (gcs : List Cell) (gtr : List Int) (hcs : List Cell) (htr : List Int) : Prop where
  hb : b ≤ cs.length
  hu : u ≤ tr.length
  e1 : gcs = undoC cs tr b u
  e2 : gtr = tr.take u
  e3 : hcs = undoC (cellsM to cs) (trailM to tr) (cellsA cs all b) (trailM to (tr.take u)).length
  e4 : htr = trailM to (tr.take u)
  ok1 : HpOk gcs gtr
  ok2 : HpOk hcs htr
  low : ∀ (i : Nat) (h : i < ms.length), i < k → ms[i].cells ≤ b ∧ ms[i].trail ≤ u
theorem UndoI.start {cs : List Cell} {tr all to : List Int} {ms : List Mk} (htc : to = toC cs all) (hok : HpOk cs tr) (hmk : ∀ m ∈ ms, MkOk cs.length tr.length m) : UndoI cs tr all to ms ms.length cs.length tr.length cs tr (cellsM to cs) (trailM to tr) := by
  have hA : cellsA cs all cs.length = (cellsM to cs).length := by
    subst htc
    rw [cellsA_eq, len_col, List.take_of_length_le (by rw [liveB_len]; exact Nat.le_refl _)]
  refine ⟨Nat.le_refl _, Nat.le_refl _, undo_all.symm, by rw [List.take_length], ?_, by rw [List.take_length], hok, ?_, fun i h _ => ?_⟩
  · rw [hA, List.take_length]
    exact undo_all.symm
  · subst htc
    exact hp_col hok all
  · have := hmk _ (List.getElem_mem h)
    unfold MkOk at this
    omega
theorem trail_len_mono (to tr : List Int) {t u : Nat} (h : t ≤ u) : (trailM to (tr.take t)).length ≤ (trailM to (tr.take u)).length := by
  obtain ⟨d, rfl⟩ := Nat.le.dest h
  rw [List.take_add, trail_app]
  simp
theorem undo_step {cs : List Cell} {tr ats vars all to : List Int} {ms : List Mk} (hMd : MadeI 20 cs tr ats vars ms) (htc : to = toC cs all) (hsub : ∀ m ∈ ms, ∀ x ∈ m.roots, x ∈ all) {j b u : Nat} {gcs hcs : List Cell} {gtr htr : List Int} (hj : j < ms.length) (h : UndoI cs tr all to ms (j + 1) b u gcs gtr hcs htr) :
    ∃ a t a' t' : Nat, ms[j].cells = a ∧ ms[j].trail = t ∧ (markM to tr ms[j]).cells = a' ∧ (markM to tr ms[j]).trail = t' ∧ a ≤ gcs.length ∧ t ≤ gtr.length ∧ a' ≤ hcs.length ∧ t' ≤ htr.length ∧
      UndoI cs tr all to ms j a t (undoC gcs gtr a t) (gtr.take t) (undoC hcs htr a' t') (htr.take t') ∧ AlikeP (undoC gcs gtr a t) ms[j].roots (undoC hcs htr a' t') (toI to ms[j].roots) to := by
  have hok := hMd.ok
  have hs := hok.slots.ok
  obtain ⟨hmo, _, hmr, hg⟩ := hMd.mks _ (List.getElem_mem hj)
  have hlow := h.low j hj (by omega)
  have hn := hMd.few
  unfold MkOk at hmo
  obtain ⟨a, ha⟩ := Int.eq_ofNat_of_zero_le hmo.1.1
  obtain ⟨t, ht⟩ := Int.eq_ofNat_of_zero_le hmo.2.1
  rw [ha, ht] at hg hlow
  simp only [Int.toNat_natCast] at hg
  have hab : a ≤ b := by omega
  have htu : t ≤ u := by omega
  have hb := h.hb
  have hu := h.hu
  have m1 : (markM to tr ms[j]).cells = (cellsA cs all a : Nat) := by
    unfold markM cellsA
    rw [ha, htc]
    rfl
  have m2 : (markM to tr ms[j]).trail = ((trailM to (tr.take t)).length : Nat) := by
    unfold markM
    rw [ht]
    rfl
  have l1 : gcs.length = b := by rw [h.e1]; exact undo_len hb
  have l2 : gtr.length = u := by rw [h.e2]; simp; omega
  have cA := cellsA_le (cs := cs) (roots := all)
  rw [← htc] at cA
  have l3 : hcs.length = cellsA cs all b := by rw [h.e3]; exact undo_len (cA b)
  have l4 : htr.length = (trailM to (tr.take u)).length := by rw [h.e4]
  have hmono := trail_len_mono to tr htu
  have hAmono : cellsA cs all a ≤ cellsA cs all b := by
    rw [cellsA_eq, cellsA_eq]
    exact cntB_mono hab
  have n1 : undoC gcs gtr a t = undoC cs tr a t := by rw [h.e1, h.e2]; exact undo_undo hok.range hab hb htu hu
  have n2 : gtr.take t = tr.take t := by rw [h.e2, List.take_take, Nat.min_eq_left htu]
  have e4' : htr = (trailM to tr).take (trailM to (tr.take u)).length := by rw [h.e4, trail_take]
  have hok2 : HpOk (cellsM to cs) (trailM to tr) := by subst htc; exact hp_col hok all
  have htl : (trailM to (tr.take u)).length ≤ (trailM to tr).length := by
    have := trail_len_mono to tr hu
    rwa [List.take_length] at this
  have n3 : undoC hcs htr (cellsA cs all a) (trailM to (tr.take t)).length = undoC (cellsM to cs) (trailM to tr) (cellsA cs all a) (trailM to (tr.take t)).length := by
    rw [h.e3, e4']
    exact undo_undo hok2.range hAmono (cA b) hmono htl
  have n4 : htr.take (trailM to (tr.take t)).length = trailM to (tr.take t) := by
    rw [e4', List.take_take, Nat.min_eq_left hmono, trail_take]
  have hu2 : HpOk (undoC (cellsM to cs) (trailM to tr) (cellsA cs all a) (trailM to (tr.take t)).length) (trailM to (tr.take t)) := by
    subst htc
    exact hp_undo hok all (by omega) (by omega) hg
  refine ⟨a, t, cellsA cs all a, (trailM to (tr.take t)).length, ha, ht, m1, m2, by omega, by omega, by omega, by omega, ?_, ?_⟩
  · rw [n1, n2, n3, n4]
    refine ⟨by omega, by omega, rfl, rfl, rfl, rfl, hg, hu2, fun i hi hij => ?_⟩
    have := (List.pairwise_iff_getElem.1 hMd.rise) i j hi hj hij
    omega
  · rw [n1, n3]
    have hrn := rn_undo hok all (a := a) (t := t) (by omega) (by omega) hg
    rw [← htc] at hrn
    refine Rn.alike hrn hg.slots hg.rank hu2.slots hu2.rank (by rw [undo_len (by omega)]; omega) ?_ fun x hx => ?_
    · rw [undo_len (cA a), undo_len (by omega), cellsA_eq]
      have := cntB_le ((liveB cs all).take a)
      simp only [List.length_take] at this
      omega
    · have hxr := hmr x hx
      obtain ⟨p, rfl⟩ := Int.eq_ofNat_of_zero_le hxr.1
      exact .inr ⟨p, rfl, Lv.root hs (by omega) (hsub _ (List.getElem_mem hj) _ hx), by omega⟩

set_option maxRecDepth 100000 in
set_option maxHeartbeats 4000000 in

theorem L09_GcUndo_c (G : GH) (w0 : World) (hG : Holds G w0) (v : Value) (l : List (Int × List Cell × Int × Int)) (h1 : RSl 4 EOp G v l) (mask : Int) (hm0 : 0 ≤ mask ∧ mask ≤ 4294967295)  :
   Calls Try.prog 5 #[v, .int .u32 mask] w0 (Sc w0 (.bool true)) := by
 refine enter Try.func5 rfl (N := 136) rfl (Nat.le_of_ble_eq_true rfl) ?_
 have hS := SS.init hG
 refine cw_seq (cw_region (ol_pure rfl (op_assign rfl) (ol_nil (pq_then (cw_seq (cw_region ?_))))))
 refine ol_step rfl (op_call_sc hS cf_11 rfl (L09_head_c G _ hS.hold)) ?_
 clear hS
 rintro _ w ⟨rfl, hS⟩
 refine ol_pure rfl (op_assign rfl) (ol_nil (pq_then (cw_seq (cw_region (ol_pure rfl (op_move rfl) ?_)))))
 refine ol_step rfl (op_call_rt hS cf_12 rfl (fun _ => .inr rfl) (fun _ _ _ hl ⟨cs, tr, ats, ms, vars, h1, h2⟩ => ⟨cs, tr, ats, ms, vars, h1.mono hl, h2⟩) (R09_Made_c _ _ hS.hold v l h1)) ?_
 clear hS
 rintro v16 w ⟨Gm, hl16, hR16, hS⟩
 obtain ⟨cs, tr, ats, ms, vars, ⟨oc, cc, ot, ct, oA, cA, oM, cM, rfl, hC, hTr, hA, hM⟩, hMd⟩ := hR16
 have hok := hMd.ok
 have hsh := hok.slots.ok
 have hn4 := hMd.few
 have htl := hok.trl
 have hal := hMd.atl
 have hml := hMd.msl
 have hn6 : cs.length ≤ 1000000 := by omega
 have hmr : ∀ m ∈ ms, m.roots.length ≤ 1000 := fun m hm => by have := (hMd.mks m hm).2.1; omega
 have hmk : ∀ m ∈ ms, MkOk cs.length tr.length m := fun m hm => (hMd.mks m hm).1
 have hmin : ∀ m ∈ ms, ∀ x ∈ m.roots, 0 ≤ x ∧ x < cs.length := fun m hm x hx => by
   have h1 := (hMd.mks m hm).2.2.1 x hx
   have h2 := hmk m hm
   unfold MkOk at h2
   omega
 refine ol_step rfl (op_alloc hS el_31 rfl) ?_
 clear hS
 rintro _ w ⟨b6, rfl, hS⟩
 refine ol_step0  (op_storeN (j := 0) hS sz_31 rfl rfl rfl rfl rfl (by simp [Value.oneCell'])) ?_
 clear hS
 rintro _ w hS; (try simp only [List.nil_append, List.cons_append, List.set] at hS)
 refine ol_nil (pq_then (cw_seq (cw_region (ol_load rfl (op_loadN agg_31 rfl (by rfl) (fun w hw k u hk => (hw.bcell (i := 0) rfl).trans hk)) hS (ol_pure rfl (op_move rfl) ?_)))))
 refine ol_step rfl (op_call_fr hS cf_13 rfl (R09_Roots_c _ _ hS.hold oc ot cs.length cc tr.length ct 400 _ ats hA oM ms.length cM (by omega) (mask) (hm0.1))) ?_
 clear hS
 rintro v19 w ⟨F19, Gr, hR19, hF19, hf19, hl19, hS⟩
 obtain ⟨roots, hR, hrl, hrm, hrm2⟩ := hR19
 obtain ⟨oR, cR, rfl, _, _⟩ := hR.elim
 replace hR := hR.mono EInt.mono hf19
 have hrin : ∀ x ∈ roots, x = -1 ∨ (0 ≤ x ∧ x < cs.length) := fun x hx => (hrm x hx).elim (fun h => .inr (hMd.at_ x h)) .inl
 obtain ⟨to, hto⟩ : ∃ to, to = movedI (liveB cs (allI roots ms)) := ⟨_, rfl⟩
 have htc : to = toC cs (allI roots ms) := hto
 have htol : to.length = cs.length := by rw [hto, movedI_len, liveB_len]
 replace hC := hC.mono ECell.mono hl19
 replace hTr := hTr.mono EInt.mono hl19
 replace hA := hA.mono EInt.mono hl19
 replace hM := hM.mono EMk.mono hl19
 (try replace hcur := hcur.trans hl19)
 refine ol_pure rfl (op_assign rfl) (ol_nil (pq_then (cw_seq (cw_region (ol_pure rfl (op_fieldAddr fld_31_0 rfl) (ol_load rfl (op_loadBS (i := 0) (o := 0) (vs := [.slice oc cs.length cc, .slice ot tr.length ct, .int .i64 400]) agg_28 rfl rfl rfl rfl) hS (ol_pure rfl (op_move rfl) ?_)))))))
 refine ol_pure rfl (op_fieldAddr fld_31_2 rfl) (ol_load rfl (op_load1 one_29 rfl (fun w hw => (hw.bcell (i := 0) rfl).trans rfl)) hS ?_)
 refine ol_step rfl (op_call_rt hS cf_16 rfl (fun _ => .inl rfl) (ColR.mono) (gc_Collect_c _ _ hS.hold _ cs tr 400 (heap_ hC hTr) hsh hn6 _ roots hR _ ms hM (by omega) (by omega) hmr hmk (by omega) (by omega) (by omega))) ?_
 clear hS
 rintro v26 w ⟨G26, hl26, hR26, hS⟩
 rw [← hto] at hR26
 obtain ⟨oce, cce, ote, cte, oRe, cRe, oMe, cMe, rfl, hCe, hTe, hRe, hMe⟩ := colX hR26 rfl rfl rfl rfl
 replace hC := hC.mono ECell.mono hl26
 replace hTr := hTr.mono EInt.mono hl26
 replace hA := hA.mono EInt.mono hl26
 replace hM := hM.mono EMk.mono hl26
 replace hR := hR.mono EInt.mono hl26
 (try replace hcur := hcur.trans hl26)
 refine ol_pure rfl (op_move rfl) (ol_pure rfl (op_extract (vs := [.agg #[.slice oce (cellsM to cs).length cce, .slice ote (trailM to tr).length cte, .int .i64 400], .slice oRe (toI to roots).length cRe, .slice oMe (ms.map (markM to tr)).length cMe]) rfl rfl) (ol_pure rfl (op_extract (vs := [.agg #[.slice oce (cellsM to cs).length cce, .slice ote (trailM to tr).length cte, .int .i64 400], .slice oRe (toI to roots).length cRe, .slice oMe (ms.map (markM to tr)).length cMe]) rfl rfl) (ol_pure rfl (op_extract (vs := [.agg #[.slice oce (cellsM to cs).length cce, .slice ote (trailM to tr).length cte, .int .i64 400], .slice oRe (toI to roots).length cRe, .slice oMe (ms.map (markM to tr)).length cMe]) rfl rfl) ?_)))
 refine ol_step rfl (op_alloc hS el_28 rfl) ?_
 clear hS
 rintro _ w ⟨b8, rfl, hS⟩
 refine ol_step0  (op_storeN (j := 0) hS sz_28 rfl rfl rfl rfl rfl (by simp [Value.oneCell'])) ?_
 clear hS
 rintro _ w hS; (try simp only [List.nil_append, List.cons_append, List.set] at hS)
 refine ol_pure rfl (op_assign rfl) (ol_pure rfl (op_assign rfl) (ol_nil (pq_then (cw_seq (cw_region (ol_pure rfl (op_fieldAddr fld_31_0 rfl) (ol_load rfl (op_loadBS (i := 1) (o := 0) (vs := [.slice oc cs.length cc, .slice ot tr.length ct, .int .i64 400]) agg_28 rfl rfl rfl rfl) hS ?_)))))))
 refine ol_pure rfl (op_move rfl) (ol_pure rfl (op_fieldAddr fld_31_2 rfl) (ol_load rfl (op_load1 one_29 rfl (fun w hw => (hw.bcell (i := 1) rfl).trans rfl)) hS ?_))
 refine ol_step rfl (op_call_fr hS cf_21 rfl (gc_Moved_c _ _ hS.hold _ cs tr 400 (heap_ hC hTr) hsh hn6 _ roots hR _ ms hM (by omega) (by omega) hmr)) ?_
 clear hS
 rintro v35 w ⟨F35, G35, hR35, hF35, hf35, hl35, hS⟩
 rw [← hto] at hR35
 obtain ⟨oV, coV, rfl, _, _⟩ := hR35.elim
 have hV := hR35.mono EInt.mono hf35
 replace hC := hC.mono ECell.mono hl35
 replace hTr := hTr.mono EInt.mono hl35
 replace hA := hA.mono EInt.mono hl35
 replace hM := hM.mono EMk.mono hl35
 replace hR := hR.mono EInt.mono hl35
 replace hCe := hCe.mono ECell.mono hl35
 replace hTe := hTe.mono EInt.mono hl35
 replace hRe := hRe.mono EInt.mono hl35
 replace hMe := hMe.mono EMk.mono hl35
 (try replace hcur := hcur.trans hl35)
 obtain ⟨hok2, hle2⟩ := col_ok htc hok
 have hml2 : (ms.map (markM to tr)).length = ms.length := by simp
 have hU0 := UndoI.start htc hok hmk
 have hsub : ∀ m ∈ ms, ∀ x ∈ m.roots, x ∈ allI roots ms := fun m hm x hx => allI_mem.2 (.inr ⟨m, hm, hx⟩)
 refine ol_pure rfl (op_assign rfl) (ol_nil (pq_then (cw_seq (cw_seq (cw_region (ol_pure rfl (op_move rfl) (ol_pure rfl (op_len sl_26 rfl rfl) ?_)))))))
 refine ol_pure rfl (op_fieldAddr fld_31_0 rfl) (ol_pure rfl (op_fieldAddr2 (o := 0) (q := 0) fld_28_0 rfl (by decide)) (ol_load rfl (op_load1 one_25 rfl (fun w hw => (hw.bcell (i := 1) rfl).trans rfl)) hS (ol_pure rfl (op_len sl_25 rfl rfl) (ol_pure rfl (op_neqF rfl rfl (by omega)) (ol_pure rfl (op_move rfl) (ol_guard_pure rfl rfl rfl (op_move rfl) (ol_guard_pure rfl rfl rfl (op_len sl_29 rfl rfl) ?_)))))))
 refine ol_guard_pure rfl rfl rfl (op_fieldAddr fld_31_2 rfl) (ol_guard_load rfl rfl rfl (op_load1 one_29 rfl (fun w hw => (hw.bcell (i := 1) rfl).trans rfl)) hS (ol_guard_pure rfl rfl rfl (op_len sl_29 rfl rfl) (ol_guard_pure rfl rfl rfl (op_neqF rfl rfl (by omega)) (ol_pure rfl (op_pick_f rfl rfl) (ol_pure rfl (op_move rfl) (ol_guard_load rfl rfl rfl (op_loadN agg_28 rfl (by rfl) (fun w hw k u hk => (hw.bcell (i := 0) rfl).trans hk)) hS ?_))))))
 refine ol_guard_step rfl rfl rfl (op_call_sc hS cf_23 rfl (R08_Right_c _ _ hS.hold _ (cellsM to cs) (trailM to tr) 400 (heap_ hCe hTe) hok2 (by omega) (by omega) (by omega))) ?_
 clear hS
 rintro _ w ⟨rfl, hS⟩
 refine ol_guard_pure rfl rfl rfl (op_not rfl) (ol_pure rfl (op_pick_f rfl rfl) (ol_nil (pq_then (cw_cond_f rfl (cw_skip (pq_then (cw_seq ?_)))))))
 refine cw_region (ol_pure rfl (op_fieldAddr fld_31_0 rfl) (ol_load rfl (op_loadBS (i := 1) (o := 0) (vs := [.slice oc cs.length cc, .slice ot tr.length ct, .int .i64 400]) agg_28 rfl rfl rfl rfl) hS ?_))
 refine ol_step rfl (op_alloc hS el_28 rfl) ?_
 clear hS
 rintro _ w ⟨b12, rfl, hS⟩
 refine ol_step0  (op_storeN (j := 0) hS sz_28 rfl rfl rfl rfl rfl (by simp [Value.oneCell'])) ?_
 clear hS
 rintro _ w hS; (try simp only [List.nil_append, List.cons_append, List.set] at hS)
 refine ol_nil (pq_then (cw_seq (cw_seq (cw_region (ol_pure rfl (op_move rfl) (ol_pure rfl (op_len sl_29 rfl rfl) (ol_pure rfl (op_val (v' := .int .i64 ((ms.length : Int) - 1)) (op_sub rfl rfl (by omega) (by omega)) (by rw [hml2])) ?_)))))))
 refine ol_pure rfl (op_assign rfl) (ol_nil (pq_then (cw_block ?_)))
 refine cw_loop (fun e w n => ∃ (k b u : Nat) (gcs hcs : List Cell) (gtr htr : List Int) (Gk : GH) (ocg otg och oth : Option Addr) (ccg ctg cch cth : Nat), e = [(5, .bool true), (6, .pointer (some ⟨b6, 0, none⟩)), (8, .pointer (some ⟨b8, 0, none⟩)), (10, .slice oMe (ms.map (markM to tr)).length cMe), (11, .slice oV to.length coV), (12, .pointer (some ⟨b12, 0, none⟩)), (13, .int .i64 ((k : Int) - 1))] ∧ k ≤ ms.length ∧ k = n ∧ UndoI cs tr (allI roots ms) to ms k b u gcs gtr hcs htr ∧ Le G35 Gk ∧ RSl 3 ECell Gk (.slice ocg gcs.length ccg) gcs ∧ RSl 1 EInt Gk (.slice otg gtr.length ctg) gtr ∧ RSl 3 ECell Gk (.slice och hcs.length cch) hcs ∧ RSl 1 EInt Gk (.slice oth htr.length cth) htr ∧ SS G w0 Gk [.blk b12 28 [.slice ocg gcs.length ccg, .slice otg gtr.length ctg, .int .i64 400], .blk b8 28 [.slice och hcs.length cch, .slice oth htr.length cth, .int .i64 400], .blk b6 31 [.slice oc cs.length cc, .slice ot tr.length ct, .int .i64 400, .slice oA ats.length cA, .slice oM ms.length cM]] w) _ _ (by exact ⟨ms.length, cs.length, tr.length, cs, cellsM to cs, tr, trailM to tr, G35, oc, ot, oce, ote, cc, ct, cce, cte, rfl, Nat.le_refl _, rfl, hU0, Le.refl _, hC, hTr, hCe, hTe, hS⟩) ((Sub.cons rfl (Sub.cons rfl (Sub.cons rfl (Sub.cons rfl (Sub.cons rfl (Sub.cons rfl (Sub.cons rfl Sub.nil)))))))) ?_
 clear hS
 rintro e w n ⟨k, b, u, gcs, hcs, gtr, htr, Gk, ocg, otg, och, oth, ccg, ctg, cch, cth, rfl, hk, rfl, hU, hlk, hCg, hTg, hCh, hTh, hS⟩
 refine cw_seq (cw_seq (cw_region (ol_pure rfl (op_move rfl) (ol_pure rfl (op_geq rfl rfl) (ol_nil (pq_then ?_))))))
 refine cw_cond rfl (fun h62 => ?_) (fun h62 => ?_)
 ·
  try simp only [dqT, dqF, dq1, dq2, dq3, dq4, dq5] at h62
  obtain ⟨j, hkj⟩ : ∃ j : Nat, k = j + 1 := ⟨k - 1, by omega⟩
  have hjl : j < ms.length := by omega
  have hji : (k : Int) - 1 = (j : Nat) := by omega
  have hMk := hM.mono EMk.mono hlk
  have hMek := hMe.mono EMk.mono hlk
  have hVk := hV.mono EInt.mono hlk
  rw [hkj] at hU
  obtain ⟨a, t, a', t', ha, ht, ha2, ht2, q1, q2, q3, q4, hUn, hal⟩ := undo_step hMd htc hsub hjl hU
  have hr1 := hU.ok1.range
  have hr2 := hU.ok2.range
  have lb := hU.hb
  have lu := hU.hu
  have lg : gcs.length = b := by rw [hU.e1]; exact undo_len hU.hb
  have lh := (hU.ok2).trl
  have hlh : hcs.length ≤ cs.length := by
    rw [hU.e3]
    unfold undoC
    rw [List.length_take, freeC_len]
    omega
  obtain ⟨hom, o9, d9, hr9, hb9, hc9⟩ := hMk.mkAt hjl
  rw [ha, ht] at hc9
  obtain ⟨hoN, o8, d8, hr8, hc8⟩ := hMek.mkM hjl
  rw [ha2, ht2] at hc8
  refine cw_skip (pq_then (cw_seq (cw_block (cw_seq (cw_seq ?_)))))
  refine al_start' hS (hS.take 2) (by kernel_rfl) rfl (fun w hS hT => ?_)
  refine al_take (i := 0) rfl (by kernel_rfl) (by kernel_rfl) (by kernel_rfl) rfl (fun _ _ _ h => h) (op_move rfl) rfl (al_take (i := 1) rfl (by kernel_rfl) (by kernel_rfl) (by kernel_rfl) rfl (fun _ _ _ h => h) (op_val (v' := .int .i64 (j : Nat)) (op_move rfl) (by rw [hji])) rfl (al_take (i := 2) rfl (by kernel_rfl) (by kernel_rfl) (by kernel_rfl) rfl (fun _ _ _ h => h) (op_indexN sl_29 rfl rfl (by omega) hoN) rfl (al_take (i := 3) rfl (by kernel_rfl) (by kernel_rfl) (by kernel_rfl) rfl (fun _ _ _ h => h) (op_fieldAddr fld_46_0 rfl) rfl (al_load (i := 4) rfl (by kernel_rfl) (by kernel_rfl) (by kernel_rfl) rfl (fun _ _ _ h => h) (by exact op_load1 one_3 rfl (fun w hw => hw.gcell (hc8 0 _ rfl))) rfl hT (al_take (i := 5) rfl (by kernel_rfl) (by kernel_rfl) (by kernel_rfl) rfl (fun _ _ _ h => h) (op_val (v' := .bool false) (op_lss rfl rfl) (congrArg Value.bool (decide_eq_false (by omega)))) rfl (al_take (i := 6) rfl (by kernel_rfl) (by kernel_rfl) (by kernel_rfl) rfl (fun _ _ _ h => h) (op_move rfl) rfl (al_gtake (i := 7) rfl (by kernel_rfl) (by kernel_rfl) (by kernel_rfl) rfl rfl rfl (fun _ _ _ h => h) (op_move rfl) rfl ?_)))))))
  refine al_gtake (i := 8) rfl (by kernel_rfl) (by kernel_rfl) (by kernel_rfl) rfl rfl rfl (fun _ _ _ h => h) (op_val (v' := .int .i64 (j : Nat)) (op_move rfl) (by rw [hji])) rfl (al_gtake (i := 9) rfl (by kernel_rfl) (by kernel_rfl) (by kernel_rfl) rfl rfl rfl (fun _ _ _ h => h) (op_indexN sl_29 rfl rfl (by omega) hoN) rfl (al_gtake (i := 10) rfl (by kernel_rfl) (by kernel_rfl) (by kernel_rfl) rfl rfl rfl (fun _ _ _ h => h) (op_fieldAddr fld_46_0 rfl) rfl (al_gload (i := 11) rfl (by kernel_rfl) (by kernel_rfl) (by kernel_rfl) rfl rfl rfl (fun _ _ _ h => h) (by exact op_load1 one_3 rfl (fun w hw => hw.gcell (hc8 0 _ rfl))) rfl hT (al_gtake (i := 12) rfl (by kernel_rfl) (by kernel_rfl) (by kernel_rfl) rfl rfl rfl (fun _ _ _ h => h) (op_fieldAddr fld_28_0 rfl) rfl (al_gload (i := 13) rfl (by kernel_rfl) (by kernel_rfl) (by kernel_rfl) rfl rfl rfl (fun _ _ _ h => h) (by exact op_load1 one_25 rfl (fun w hw => (hw.bcell (i := 1) rfl).trans rfl)) rfl hT (al_gtake (i := 14) rfl (by kernel_rfl) (by kernel_rfl) (by kernel_rfl) rfl rfl rfl (fun _ _ _ h => h) (op_len sl_25 rfl rfl) rfl (al_gtake (i := 15) rfl (by kernel_rfl) (by kernel_rfl) (by kernel_rfl) rfl rfl rfl (fun _ _ _ h => h) (op_val (v' := .bool false) (op_gtr rfl rfl) (congrArg Value.bool (decide_eq_false (by omega)))) rfl ?_)))))))
  refine al_take (i := 16) rfl (by kernel_rfl) (by kernel_rfl) (by kernel_rfl) rfl (fun _ _ _ h => h) (op_pick_f rfl rfl) rfl (al_take (i := 17) rfl (by kernel_rfl) (by kernel_rfl) (by kernel_rfl) rfl (fun _ _ _ h => h) (op_move rfl) rfl (al_gtake (i := 18) rfl (by kernel_rfl) (by kernel_rfl) (by kernel_rfl) rfl rfl rfl (fun _ _ _ h => h) (op_move rfl) rfl (al_gtake (i := 19) rfl (by kernel_rfl) (by kernel_rfl) (by kernel_rfl) rfl rfl rfl (fun _ _ _ h => h) (op_val (v' := .int .i64 (j : Nat)) (op_move rfl) (by rw [hji])) rfl (al_gtake (i := 20) rfl (by kernel_rfl) (by kernel_rfl) (by kernel_rfl) rfl rfl rfl (fun _ _ _ h => h) (op_indexN sl_29 rfl rfl (by omega) hoN) rfl (al_gtake (i := 21) rfl (by kernel_rfl) (by kernel_rfl) (by kernel_rfl) rfl rfl rfl (fun _ _ _ h => h) (op_fieldAddr fld_46_1 rfl) rfl (al_gload (i := 22) rfl (by kernel_rfl) (by kernel_rfl) (by kernel_rfl) rfl rfl rfl (fun _ _ _ h => h) (by exact op_load1 one_3 rfl (fun w hw => hw.gcell (hc8 1 _ rfl))) rfl hT (al_gtake (i := 23) rfl (by kernel_rfl) (by kernel_rfl) (by kernel_rfl) rfl rfl rfl (fun _ _ _ h => h) (op_val (v' := .bool false) (op_lss rfl rfl) (congrArg Value.bool (decide_eq_false (by omega)))) rfl ?_)))))))
  refine al_take (i := 24) rfl (by kernel_rfl) (by kernel_rfl) (by kernel_rfl) rfl (fun _ _ _ h => h) (op_pick_f rfl rfl) rfl (al_take (i := 25) rfl (by kernel_rfl) (by kernel_rfl) (by kernel_rfl) rfl (fun _ _ _ h => h) (op_move rfl) rfl (al_gtake (i := 26) rfl (by kernel_rfl) (by kernel_rfl) (by kernel_rfl) rfl rfl rfl (fun _ _ _ h => h) (op_move rfl) rfl (al_gtake (i := 27) rfl (by kernel_rfl) (by kernel_rfl) (by kernel_rfl) rfl rfl rfl (fun _ _ _ h => h) (op_val (v' := .int .i64 (j : Nat)) (op_move rfl) (by rw [hji])) rfl (al_gtake (i := 28) rfl (by kernel_rfl) (by kernel_rfl) (by kernel_rfl) rfl rfl rfl (fun _ _ _ h => h) (op_indexN sl_29 rfl rfl (by omega) hoN) rfl (al_gtake (i := 29) rfl (by kernel_rfl) (by kernel_rfl) (by kernel_rfl) rfl rfl rfl (fun _ _ _ h => h) (op_fieldAddr fld_46_1 rfl) rfl (al_gload (i := 30) rfl (by kernel_rfl) (by kernel_rfl) (by kernel_rfl) rfl rfl rfl (fun _ _ _ h => h) (by exact op_load1 one_3 rfl (fun w hw => hw.gcell (hc8 1 _ rfl))) rfl hT (al_gtake (i := 31) rfl (by kernel_rfl) (by kernel_rfl) (by kernel_rfl) rfl rfl rfl (fun _ _ _ h => h) (op_fieldAddr fld_28_1 rfl) rfl ?_)))))))
  refine al_gload (i := 32) rfl (by kernel_rfl) (by kernel_rfl) (by kernel_rfl) rfl rfl rfl (fun _ _ _ h => h) (by exact op_load1 one_26 rfl (fun w hw => (hw.bcell (i := 1) rfl).trans rfl)) rfl hT (al_gtake (i := 33) rfl (by kernel_rfl) (by kernel_rfl) (by kernel_rfl) rfl rfl rfl (fun _ _ _ h => h) (op_len sl_26 rfl rfl) rfl (al_gtake (i := 34) rfl (by kernel_rfl) (by kernel_rfl) (by kernel_rfl) rfl rfl rfl (fun _ _ _ h => h) (op_val (v' := .bool false) (op_gtr rfl rfl) (congrArg Value.bool (decide_eq_false (by omega)))) rfl (al_take (i := 35) rfl (by kernel_rfl) (by kernel_rfl) (by kernel_rfl) rfl (fun _ _ _ h => h) (op_pick_f rfl rfl) rfl (al_done (by kernel_rfl) (pq_then (cw_cond_f rfl (cw_skip ?_)))))))
  refine pq_then (cw_seq ?_)
  have hcur := Le.refl Gk
  refine al_start' hS (hS.take 3) (by kernel_rfl) rfl (fun w hS hT => ?_)
  refine al_load (i := 0) rfl (by kernel_rfl) (by kernel_rfl) (by kernel_rfl) rfl (fun _ _ _ h => h) (by exact op_loadN agg_28 rfl (by rfl) (fun w hw k u hk => (hw.bcell (i := 0) rfl).trans hk)) rfl hT (al_take (i := 1) rfl (by kernel_rfl) (by kernel_rfl) (by kernel_rfl) rfl (fun _ _ _ h => h) (op_fieldAddr fld_31_2 rfl) rfl (al_load (i := 2) rfl (by kernel_rfl) (by kernel_rfl) (by kernel_rfl) rfl (fun _ _ _ h => h) (by exact op_load1 one_29 rfl (fun w hw => (hw.bcell (i := 2) rfl).trans rfl)) rfl hT (al_take (i := 3) rfl (by kernel_rfl) (by kernel_rfl) (by kernel_rfl) rfl (fun _ _ _ h => h) (op_val (v' := .int .i64 (j : Nat)) (op_move rfl) (by rw [hji])) rfl (al_take (i := 4) rfl (by kernel_rfl) (by kernel_rfl) (by kernel_rfl) rfl (fun _ _ _ h => h) (op_indexN sl_29 rfl rfl (by omega) hom) rfl (al_load (i := 5) rfl (by kernel_rfl) (by kernel_rfl) (by kernel_rfl) rfl (fun _ _ _ h => h) (by exact op_loadN agg_46 rfl (by rfl) (fun w hw k u hk => hw.gcell (hc9 k u hk))) rfl hT ?_)))))
  refine al_step (i := 6) rfl (by kernel_rfl) rfl (op_call_rt hS cf_25 rfl (fun _ => .inr rfl) (heap_mono) (R08_Undo_c _ _ hS.hold _ gcs gtr 400 (heap_ hCg hTg) a t o9 ms[j].roots.length d9 q1 q2 hr1 (by omega))) ?_
  clear hS
  rintro v107 w ⟨G107, hl107, hR107, hS⟩
  obtain ⟨ocp, ccp, otp, ctp, rfl, hCp, hTp⟩ := hR107
  replace hCh := hCh.mono ECell.mono hl107
  replace hTh := hTh.mono EInt.mono hl107
  replace hMk := hMk.mono EMk.mono hl107
  replace hMek := hMek.mono EMk.mono hl107
  replace hVk := hVk.mono EInt.mono hl107
  replace hr9 := hr9.mono EInt.mono hl107
  replace hr8 := hr8.mono EInt.mono hl107
  (try replace hcur := hcur.trans hl107)
  have hT := hT.back hS (by first | exact Le.refl _ | assumption) (fun x hx => by try simp only [bkA, bkB, bkC, bkD, bkE] at hx; (rcases hx with rfl | rfl | rfl) <;> simp)
  refine ⟨fun _ _ => hT, ?_⟩
  refine al_step0 (i := 7) rfl (by kernel_rfl) (op_storeN (j := 0) hS sz_28 rfl rfl rfl rfl rfl (by simp [Value.oneCell'])) ?_
  clear hS
  rintro _ w hS; (try simp only [List.nil_append, List.cons_append, List.set] at hS)
  refine ⟨no_need (by kernel_rfl), ?_⟩
  refine al_done (by kernel_rfl) (pq_then (cw_seq ?_))
  clear hcur
  have hcur := Le.refl G107
  refine al_start' hS (hS.take 2) (by kernel_rfl) rfl (fun w hS hT => ?_)
  refine al_load (i := 0) rfl (by kernel_rfl) (by kernel_rfl) (by kernel_rfl) rfl (fun _ _ _ h => h) (by exact op_loadN agg_28 rfl (by rfl) (fun w hw k u hk => (hw.bcell (i := 1) rfl).trans hk)) rfl hT (al_take (i := 1) rfl (by kernel_rfl) (by kernel_rfl) (by kernel_rfl) rfl (fun _ _ _ h => h) (op_move rfl) rfl (al_take (i := 2) rfl (by kernel_rfl) (by kernel_rfl) (by kernel_rfl) rfl (fun _ _ _ h => h) (op_val (v' := .int .i64 (j : Nat)) (op_move rfl) (by rw [hji])) rfl (al_take (i := 3) rfl (by kernel_rfl) (by kernel_rfl) (by kernel_rfl) rfl (fun _ _ _ h => h) (op_indexN sl_29 rfl rfl (by omega) hoN) rfl (al_load (i := 4) rfl (by kernel_rfl) (by kernel_rfl) (by kernel_rfl) rfl (fun _ _ _ h => h) (by exact op_loadN agg_46 rfl (by rfl) (fun w hw k u hk => hw.gcell (hl107.cell (hc8 k u hk)))) rfl hT ?_))))
  refine al_step (i := 5) rfl (by kernel_rfl) rfl (op_call_rt hS cf_25 rfl (fun _ => .inr rfl) (heap_mono) (R08_Undo_c _ _ hS.hold _ hcs htr 400 (heap_ hCh hTh) a' t' o8 (toI to ms[j].roots).length d8 q3 q4 hr2 (by omega))) ?_
  clear hS
  rintro v113 w ⟨G113, hl113, hR113, hS⟩
  obtain ⟨ocq, ccq, otq, ctq, rfl, hCq, hTq⟩ := hR113
  replace hCp := hCp.mono ECell.mono hl113
  replace hTp := hTp.mono EInt.mono hl113
  replace hMk := hMk.mono EMk.mono hl113
  replace hMek := hMek.mono EMk.mono hl113
  replace hVk := hVk.mono EInt.mono hl113
  replace hr9 := hr9.mono EInt.mono hl113
  replace hr8 := hr8.mono EInt.mono hl113
  (try replace hcur := hcur.trans hl113)
  refine ⟨no_need (by kernel_rfl), ?_⟩
  refine al_step0 (i := 6) rfl (by kernel_rfl) (op_storeN (j := 1) hS sz_28 rfl rfl rfl rfl rfl (by simp [Value.oneCell'])) ?_
  clear hS
  rintro _ w hS; (try simp only [List.nil_append, List.cons_append, List.set] at hS)
  refine ⟨no_need (by kernel_rfl), ?_⟩
  refine al_done (by kernel_rfl) (pq_then (cw_seq ?_))
  clear hcur
  have hcur := Le.refl G113
  have hlx := hl107.trans hl113
  have lgn := undo_len (cs := gcs) (tr := gtr) (t := t) q1
  have lhn := undo_len (cs := hcs) (tr := htr) (t := t') q3
  refine al_start' hS (hS.take 3) (by kernel_rfl) rfl (fun w hS hT => ?_)
  refine al_load (i := 0) rfl (by kernel_rfl) (by kernel_rfl) (by kernel_rfl) rfl (fun _ _ _ h => h) (by exact op_loadN agg_28 rfl (by rfl) (fun w hw k u hk => (hw.bcell (i := 1) rfl).trans hk)) rfl hT ?_
  refine al_step (i := 1) rfl (by kernel_rfl) rfl (op_call_sc hS cf_23 rfl (R08_Right_c _ _ hS.hold _ (undoC hcs htr a' t') (htr.take t') 400 (heap_ hCq hTq) hUn.ok2 (by omega) (by omega) (by omega))) ?_
  clear hS
  rintro _ w ⟨rfl, hS⟩
  have hT := hT.back hS (by first | exact Le.refl _ | assumption) (fun x hx => by try simp only [bkA, bkB, bkC, bkD, bkE] at hx; (rcases hx with rfl | rfl | rfl) <;> simp)
  refine ⟨fun _ _ => hT, ?_⟩
  refine al_take (i := 2) rfl (by kernel_rfl) (by kernel_rfl) (by kernel_rfl) rfl (fun _ _ _ h => h) (op_not rfl) rfl (al_take (i := 3) rfl (by kernel_rfl) (by kernel_rfl) (by kernel_rfl) rfl (fun _ _ _ h => h) (op_move rfl) rfl (al_gload (i := 4) rfl (by kernel_rfl) (by kernel_rfl) (by kernel_rfl) rfl rfl rfl (fun _ _ _ h => h) (by exact op_loadN agg_28 rfl (by rfl) (fun w hw k u hk => (hw.bcell (i := 0) rfl).trans hk)) rfl hT (al_gtake (i := 5) rfl (by kernel_rfl) (by kernel_rfl) (by kernel_rfl) rfl rfl rfl (fun _ _ _ h => h) (op_fieldAddr fld_31_2 rfl) rfl (al_gload (i := 6) rfl (by kernel_rfl) (by kernel_rfl) (by kernel_rfl) rfl rfl rfl (fun _ _ _ h => h) (by exact op_load1 one_29 rfl (fun w hw => (hw.bcell (i := 2) rfl).trans rfl)) rfl hT (al_gtake (i := 7) rfl (by kernel_rfl) (by kernel_rfl) (by kernel_rfl) rfl rfl rfl (fun _ _ _ h => h) (op_val (v' := .int .i64 (j : Nat)) (op_move rfl) (by rw [hji])) rfl (al_gtake (i := 8) rfl (by kernel_rfl) (by kernel_rfl) (by kernel_rfl) rfl rfl rfl (fun _ _ _ h => h) (op_indexN sl_29 rfl rfl (by omega) hom) rfl (al_gtake (i := 9) rfl (by kernel_rfl) (by kernel_rfl) (by kernel_rfl) rfl rfl rfl (fun _ _ _ h => h) (op_fieldAddr fld_46_2 rfl) rfl ?_)))))))
  refine al_gload (i := 10) rfl (by kernel_rfl) (by kernel_rfl) (by kernel_rfl) rfl rfl rfl (fun _ _ _ h => h) (by exact op_load1 one_26 rfl (fun w hw => hw.gcell (hlx.cell (hc9 2 _ rfl)))) rfl hT (al_gload (i := 11) rfl (by kernel_rfl) (by kernel_rfl) (by kernel_rfl) rfl rfl rfl (fun _ _ _ h => h) (by exact op_loadN agg_28 rfl (by rfl) (fun w hw k u hk => (hw.bcell (i := 1) rfl).trans hk)) rfl hT (al_gtake (i := 12) rfl (by kernel_rfl) (by kernel_rfl) (by kernel_rfl) rfl rfl rfl (fun _ _ _ h => h) (op_move rfl) rfl (al_gtake (i := 13) rfl (by kernel_rfl) (by kernel_rfl) (by kernel_rfl) rfl rfl rfl (fun _ _ _ h => h) (op_val (v' := .int .i64 (j : Nat)) (op_move rfl) (by rw [hji])) rfl (al_gtake (i := 14) rfl (by kernel_rfl) (by kernel_rfl) (by kernel_rfl) rfl rfl rfl (fun _ _ _ h => h) (op_indexN sl_29 rfl rfl (by omega) hoN) rfl (al_gtake (i := 15) rfl (by kernel_rfl) (by kernel_rfl) (by kernel_rfl) rfl rfl rfl (fun _ _ _ h => h) (op_fieldAddr fld_46_2 rfl) rfl (al_gload (i := 16) rfl (by kernel_rfl) (by kernel_rfl) (by kernel_rfl) rfl rfl rfl (fun _ _ _ h => h) (by exact op_load1 one_26 rfl (fun w hw => hw.gcell (hlx.cell (hc8 2 _ rfl)))) rfl hT (al_gtake (i := 17) rfl (by kernel_rfl) (by kernel_rfl) (by kernel_rfl) rfl rfl rfl (fun _ _ _ h => h) (op_move rfl) rfl ?_)))))))
  refine al_gstep (i := 18) rfl (by kernel_rfl) rfl rfl rfl (op_call_sc hS cf_24 rfl (R09_Alike_c _ _ hS.hold _ _ (undoC gcs gtr a t) (undoC hcs htr a' t') (gtr.take t) (htr.take t') 400 400 (heap_ hCp hTp) (heap_ hCq hTq) hUn.ok1.slots.ok hUn.ok1.rank hUn.ok2.slots.ok hUn.ok2.rank (by omega) (by omega) _ _ _ ms[j].roots (toI to ms[j].roots) to hr9 hr8 hVk hal)) ?_
  clear hS
  rintro _ w ⟨rfl, hS⟩
  have hT := hT.back hS (by first | exact Le.refl _ | assumption) (fun x hx => by try simp only [bkA, bkB, bkC, bkD, bkE] at hx; (rcases hx with rfl | rfl | rfl) <;> simp)
  refine ⟨fun _ _ => hT, ?_⟩
  refine al_gtake (i := 19) rfl (by kernel_rfl) (by kernel_rfl) (by kernel_rfl) rfl rfl rfl (fun _ _ _ h => h) (op_not rfl) rfl (al_take (i := 20) rfl (by kernel_rfl) (by kernel_rfl) (by kernel_rfl) rfl (fun _ _ _ h => h) (op_pick_f rfl rfl) rfl (al_done (by kernel_rfl) (pq_then (cw_cond_f rfl (cw_skip (pq_in_normal (pq_then ?_)))))))
  refine cw_region (ol_pure rfl (op_val (v' := .int .i64 (j : Nat)) (op_move rfl) (by rw [hji])) (ol_pure rfl (op_sub rfl rfl (by omega) (by omega)) (ol_pure rfl (op_assign rfl) (ol_nil ?_))))
  refine pq_loop _ _ (by exact ⟨j, a, t, _, _, _, _, G113, ocp, otp, ocq, otq, ccp, ctp, ccq, ctq, rfl, by omega, rfl, hUn, hlk.trans hlx, hCp, hTp, hCq, hTq, hS⟩) ((Sub.cons rfl (Sub.cons rfl (Sub.cons rfl (Sub.cons rfl (Sub.cons rfl (Sub.cons rfl (Sub.cons rfl Sub.nil)))))))) (by omega)
 ·
  try simp only [dqT, dqF, dq1, dq2, dq3, dq4, dq5] at h62
  refine cw_exit (pq_exit (pq_exit (pq_in_exit (pq_then (cw_seq (cw_region (ol_pure rfl (op_move rfl) ?_)))))))
  refine ol_pure rfl (op_assign rfl) (ol_nil (pq_then (cw_ret (ret1 rfl rfl ?_))))
  exact hS.sc_b rfl
end Go.Proofs.Ytnmkffkalnkbbaa.K
