/-
  GcAgain: its walk.
  No condition but the premises that each theorem names.
-/
import Derived.Test.YtnmkffkalnkbbaaGcom
namespace Go.Proofs.Ytnmkffkalnkbbaa.K
open Go Go.RowKit
set_option linter.unusedVariables false
set_option linter.unusedSimpArgs false

open Pl

set_option maxRecDepth 100000 in
set_option maxHeartbeats 4000000 in

theorem L09_GcAgain_c (G : GH) (w0 : World) (hG : Holds G w0) (v : Value) (l : List (Int × List Cell × Int × Int)) (h1 : RSl 4 EOp G v l) (mask : Int) (hm0 : 0 ≤ mask ∧ mask ≤ 4294967295)  :
   Calls Try.prog 7 #[v, .int .u32 mask] w0 (Sc w0 (.bool true)) := by
 refine enter Try.func7 rfl (N := 98) rfl (Nat.le_of_ble_eq_true rfl) ?_
 have hS := SS.init hG
 refine cw_seq (cw_region (ol_pure rfl (op_assign rfl) (ol_nil (pq_then (cw_seq (cw_region ?_))))))
 refine ol_step rfl (op_call_sc hS cf_11 rfl (L09_head_c G _ hS.hold)) ?_
 clear hS
 rintro _ w ⟨rfl, hS⟩
 refine ol_pure rfl (op_assign rfl) (ol_nil (pq_then (cw_seq (cw_region (ol_pure rfl (op_move rfl) ?_)))))
 refine ol_step rfl (op_call_rt hS cf_12 rfl (fun _ => .inr rfl) (fun _ _ _ hl ⟨cs, tr, ats, ms, vars, h1, h2⟩ => ⟨cs, tr, ats, ms, vars, h1.mono hl, h2⟩) (R09_Made_c _ _ hS.hold v l h1)) ?_
 clear hS
 rintro v16 w ⟨Gm, hl16, hR16, hS⟩
 obtain ⟨cs, tr, ats, ms, vars, ⟨oc, cc, ot, ct, oA, cA, oM, cM, rfl, hC, hTr, hA, hM⟩, hMd⟩ := hR16
 have hok := hMd.ok
 have hsh := hok.slots.ok
 have hn4 := hMd.few
 have htl := hok.trl
 have hal := hMd.atl
 have hml := hMd.msl
 have hn6 : cs.length ≤ 1000000 := by omega
 have hmr : ∀ m ∈ ms, m.roots.length ≤ 1000 := fun m hm => by have := (hMd.mks m hm).2.1; omega
 have hmk : ∀ m ∈ ms, MkOk cs.length tr.length m := fun m hm => (hMd.mks m hm).1
 have hmin : ∀ m ∈ ms, ∀ x ∈ m.roots, 0 ≤ x ∧ x < cs.length := fun m hm x hx => by
   have h1 := (hMd.mks m hm).2.2.1 x hx
   have h2 := hmk m hm
   unfold MkOk at h2
   omega
 refine ol_step rfl (op_alloc hS el_31 rfl) ?_
 clear hS
 rintro _ w ⟨b6, rfl, hS⟩
 refine ol_step0  (op_storeN (j := 0) hS sz_31 rfl rfl rfl rfl rfl (by simp [Value.oneCell'])) ?_
 clear hS
 rintro _ w hS; (try simp only [List.nil_append, List.cons_append, List.set] at hS)
 refine ol_nil (pq_then (cw_seq ?_))
 have hcur := Le.refl Gm
 refine al_start' hS (hS.take 1) (by kernel_rfl) rfl (fun w hS hT => ?_)
 refine al_take (i := 0) rfl (by kernel_rfl) (by kernel_rfl) (by kernel_rfl) rfl (fun _ _ _ h => h) (op_fieldAddr fld_31_0 rfl) rfl (al_load (i := 1) rfl (by kernel_rfl) (by kernel_rfl) (by kernel_rfl) rfl (fun _ _ _ h => h) (by exact op_loadBS (i := 0) (o := 0) (vs := [.slice oc cs.length cc, .slice ot tr.length ct, .int .i64 400]) agg_28 rfl rfl rfl rfl) rfl hT (al_load (i := 2) rfl (by kernel_rfl) (by kernel_rfl) (by kernel_rfl) rfl (fun _ _ _ h => h) (by exact op_loadN agg_31 rfl (by rfl) (fun w hw k u hk => (hw.bcell (i := 0) rfl).trans hk)) rfl hT (al_take (i := 3) rfl (by kernel_rfl) (by kernel_rfl) (by kernel_rfl) rfl (fun _ _ _ h => h) (op_move rfl) rfl (al_take (i := 5) rfl (by kernel_rfl) (by kernel_rfl) (by kernel_rfl) rfl (fun _ _ _ h => h) (op_fieldAddr fld_31_2 rfl) rfl (al_load (i := 6) rfl (by kernel_rfl) (by kernel_rfl) (by kernel_rfl) rfl (fun _ _ _ h => h) (by exact op_load1 one_29 rfl (fun w hw => (hw.bcell (i := 0) rfl).trans rfl)) rfl hT ?_)))))
 refine al_meet (fuel2 := 0) (ds2 := [15, 14, 13, 12, 11, 10, 9, 8, 7, 6, 5, 4, 3, 2, 1, 0]) (fun e w => ∃ (roots to : List Int) (b7 : Nat) (G25 : GH) (oce ote oRe oMe : Option Addr) (cce cte cRe cMe : Nat), e = [(5, .bool true), (6, .pointer (some ⟨b6, 0, none⟩)), (7, .pointer (some ⟨b7, 0, none⟩)), (8, .slice oRe (toI to roots).length cRe), (9, .slice oMe (ms.map (markM to tr)).length cMe)] ∧ Le Gm G25 ∧ to = toC cs (allI roots ms) ∧ roots.length ≤ 21 ∧ (∀ x ∈ roots, x = -1 ∨ (0 ≤ x ∧ x < cs.length)) ∧ RSl 3 ECell G25 (.slice oce (cellsM to cs).length cce) (cellsM to cs) ∧ RSl 1 EInt G25 (.slice ote (trailM to tr).length cte) (trailM to tr) ∧ RSl 1 EInt G25 (.slice oRe (toI to roots).length cRe) (toI to roots) ∧ RSl 3 EMk G25 (.slice oMe (ms.map (markM to tr)).length cMe) (ms.map (markM to tr)) ∧ SS G w0 G25 [.blk b7 28 [.slice oce (cellsM to cs).length cce, .slice ote (trailM to tr).length cte, .int .i64 400], .blk b6 31 [.slice oc cs.length cc, .slice ot tr.length ct, .int .i64 400, .slice oA ats.length cA, .slice oM ms.length cM]] w) (fun K3 => ?_) ?_
 ·
  refine al_two (i := 4) (j := 12) (by kernel_rfl) (fun a ha => ?_) (fun a ha => ?_)
  ·
   refine wpOp_of_opk (i := 4) rfl ha (op_call_fr hS cf_13 rfl (R09_Roots_c _ _ hS.hold oc ot cs.length cc tr.length ct 400 _ ats hA oM ms.length cM (by omega) (mask) (hm0.1))) ?_
   clear hS
   rintro v22 w ⟨F22, Gr, hR22, hF22, hf22, hl22, hS⟩
   obtain ⟨roots, hR, hrl, hrm, hrm2⟩ := hR22
   obtain ⟨oR, cR, rfl, _, _⟩ := hR.elim
   replace hR := hR.mono EInt.mono hf22
   have hrin : ∀ x ∈ roots, x = -1 ∨ (0 ≤ x ∧ x < cs.length) := fun x hx => (hrm x hx).elim (fun h => .inr (hMd.at_ x h)) .inl
   obtain ⟨to, hto⟩ : ∃ to, to = movedI (liveB cs (allI roots ms)) := ⟨_, rfl⟩
   have htc : to = toC cs (allI roots ms) := hto
   have htol : to.length = cs.length := by rw [hto, movedI_len, liveB_len]
   replace hC := hC.mono ECell.mono hl22
   replace hTr := hTr.mono EInt.mono hl22
   replace hA := hA.mono EInt.mono hl22
   replace hM := hM.mono EMk.mono hl22
   (try replace hcur := hcur.trans hl22)
   have hT := hT.back hS (by first | exact Le.refl _ | assumption) (fun x hx => by try simp only [bkA, bkB, bkC, bkD, bkE] at hx; (rcases hx with rfl) <;> simp)
   refine ⟨fun _ _ => hT, ?_⟩
   refine al_at ?_ (ha.put (blt_lt rfl) _)
   refine al_two (i := 7) (j := 12) (by kernel_rfl) (fun a ha => ?_) (fun a ha => ?_)
   ·
    refine wpOp_of_opk (i := 7) rfl ha (op_call_rt hS cf_16 rfl (fun _ => .inl rfl) (ColR.mono) (gc_Collect_c _ _ hS.hold _ cs tr 400 (heap_ hC hTr) hsh hn6 _ roots hR _ ms hM (by omega) (by omega) hmr hmk (by omega) (by omega) (by omega))) ?_
    clear hS
    rintro v25 w ⟨G25, hl25, hR25, hS⟩
    rw [← hto] at hR25
    obtain ⟨oce, cce, ote, cte, oRe, cRe, oMe, cMe, rfl, hCe, hTe, hRe, hMe⟩ := colX hR25 rfl rfl rfl rfl
    replace hC := hC.mono ECell.mono hl25
    replace hTr := hTr.mono EInt.mono hl25
    replace hA := hA.mono EInt.mono hl25
    replace hM := hM.mono EMk.mono hl25
    replace hR := hR.mono EInt.mono hl25
    (try replace hcur := hcur.trans hl25)
    have hT := hT.back hS (by first | exact Le.refl _ | assumption) (fun x hx => by try simp only [bkA, bkB, bkC, bkD, bkE] at hx; (rcases hx with rfl) <;> simp)
    refine ⟨fun _ _ => hT, ?_⟩
    refine al_at ?_ (ha.put (blt_lt rfl) _)
    refine al_take (i := 8) rfl (by kernel_rfl) (by kernel_rfl) (by kernel_rfl) rfl (fun _ _ _ h => h) (op_move rfl) rfl (al_take (i := 9) rfl (by kernel_rfl) (by kernel_rfl) (by kernel_rfl) rfl (fun _ _ _ h => h) (op_extract (vs := [.agg #[.slice oce (cellsM to cs).length cce, .slice ote (trailM to tr).length cte, .int .i64 400], .slice oRe (toI to roots).length cRe, .slice oMe (ms.map (markM to tr)).length cMe]) rfl rfl) rfl (al_take (i := 10) rfl (by kernel_rfl) (by kernel_rfl) (by kernel_rfl) rfl (fun _ _ _ h => h) (op_extract (vs := [.agg #[.slice oce (cellsM to cs).length cce, .slice ote (trailM to tr).length cte, .int .i64 400], .slice oRe (toI to roots).length cRe, .slice oMe (ms.map (markM to tr)).length cMe]) rfl rfl) rfl (al_take (i := 11) rfl (by kernel_rfl) (by kernel_rfl) (by kernel_rfl) rfl (fun _ _ _ h => h) (op_extract (vs := [.agg #[.slice oce (cellsM to cs).length cce, .slice ote (trailM to tr).length cte, .int .i64 400], .slice oRe (toI to roots).length cRe, .slice oMe (ms.map (markM to tr)).length cMe]) rfl rfl) rfl ?_)))
    refine al_step (i := 12) rfl (by kernel_rfl) rfl (op_alloc hS el_28 rfl) ?_
    clear hS
    rintro _ w ⟨b7, rfl, hS⟩
    have hT := hT.back hS (by first | exact Le.refl _ | assumption) (fun x hx => by try simp only [bkA, bkB, bkC, bkD, bkE] at hx; (rcases hx with rfl) <;> simp)
    refine ⟨fun _ _ => hT, ?_⟩
    refine al_step0 (i := 13) rfl (by kernel_rfl) (op_storeN (j := 0) hS sz_28 rfl rfl rfl rfl rfl (by simp [Value.oneCell'])) ?_
    clear hS
    rintro _ w hS; (try simp only [List.nil_append, List.cons_append, List.set] at hS)
    refine ⟨no_need (by kernel_rfl), ?_⟩
    refine al_take (i := 14) rfl (by kernel_rfl) (by kernel_rfl) (by kernel_rfl) rfl (fun _ _ _ h => h) (op_assign rfl) rfl (al_take (i := 15) rfl (by kernel_rfl) (by kernel_rfl) (by kernel_rfl) rfl (fun _ _ _ h => h) (op_assign rfl) rfl ?_)
    exact K3 _ _ _ _ (by kernel_rfl) (by exact ⟨roots, to, b7, G25, oce, ote, oRe, oMe, cce, cte, cRe, cMe, rfl, hcur, htc, hrl, hrin, hCe, hTe, hRe, hMe, hS⟩) ((Sub.cons rfl (Sub.cons rfl (Sub.cons rfl (Sub.cons rfl (Sub.cons rfl Sub.nil))))))
   ·
    refine wpOp_of_opk (i := 12) rfl ha (op_alloc hS el_28 rfl) ?_
    clear hS
    rintro _ w ⟨b7, rfl, hS⟩
    have hT := hT.back hS (by first | exact Le.refl _ | assumption) (fun x hx => by try simp only [bkA, bkB, bkC, bkD, bkE] at hx; (rcases hx with rfl) <;> simp)
    refine ⟨fun _ _ => hT, ?_⟩
    refine al_at ?_ (ha.put (blt_lt rfl) _)
    refine al_step (i := 7) rfl (by kernel_rfl) rfl (op_call_rt hS cf_16 rfl (fun _ => .inl rfl) (ColR.mono) (gc_Collect_c _ _ hS.hold _ cs tr 400 (heap_ hC hTr) hsh hn6 _ roots hR _ ms hM (by omega) (by omega) hmr hmk (by omega) (by omega) (by omega))) ?_
    clear hS
    rintro v25 w ⟨G25, hl25, hR25, hS⟩
    rw [← hto] at hR25
    obtain ⟨oce, cce, ote, cte, oRe, cRe, oMe, cMe, rfl, hCe, hTe, hRe, hMe⟩ := colX hR25 rfl rfl rfl rfl
    replace hC := hC.mono ECell.mono hl25
    replace hTr := hTr.mono EInt.mono hl25
    replace hA := hA.mono EInt.mono hl25
    replace hM := hM.mono EMk.mono hl25
    replace hR := hR.mono EInt.mono hl25
    (try replace hcur := hcur.trans hl25)
    have hT := hT.back hS (by first | exact Le.refl _ | assumption) (fun x hx => by try simp only [bkA, bkB, bkC, bkD, bkE] at hx; (rcases hx with rfl) <;> simp)
    refine ⟨fun _ _ => hT, ?_⟩
    refine al_take (i := 8) rfl (by kernel_rfl) (by kernel_rfl) (by kernel_rfl) rfl (fun _ _ _ h => h) (op_move rfl) rfl (al_take (i := 9) rfl (by kernel_rfl) (by kernel_rfl) (by kernel_rfl) rfl (fun _ _ _ h => h) (op_extract (vs := [.agg #[.slice oce (cellsM to cs).length cce, .slice ote (trailM to tr).length cte, .int .i64 400], .slice oRe (toI to roots).length cRe, .slice oMe (ms.map (markM to tr)).length cMe]) rfl rfl) rfl (al_take (i := 10) rfl (by kernel_rfl) (by kernel_rfl) (by kernel_rfl) rfl (fun _ _ _ h => h) (op_extract (vs := [.agg #[.slice oce (cellsM to cs).length cce, .slice ote (trailM to tr).length cte, .int .i64 400], .slice oRe (toI to roots).length cRe, .slice oMe (ms.map (markM to tr)).length cMe]) rfl rfl) rfl (al_take (i := 11) rfl (by kernel_rfl) (by kernel_rfl) (by kernel_rfl) rfl (fun _ _ _ h => h) (op_extract (vs := [.agg #[.slice oce (cellsM to cs).length cce, .slice ote (trailM to tr).length cte, .int .i64 400], .slice oRe (toI to roots).length cRe, .slice oMe (ms.map (markM to tr)).length cMe]) rfl rfl) rfl ?_)))
    refine al_step0 (i := 13) rfl (by kernel_rfl) (op_storeN (j := 0) hS sz_28 rfl rfl rfl rfl rfl (by simp [Value.oneCell'])) ?_
    clear hS
    rintro _ w hS; (try simp only [List.nil_append, List.cons_append, List.set] at hS)
    refine ⟨no_need (by kernel_rfl), ?_⟩
    refine al_take (i := 14) rfl (by kernel_rfl) (by kernel_rfl) (by kernel_rfl) rfl (fun _ _ _ h => h) (op_assign rfl) rfl (al_take (i := 15) rfl (by kernel_rfl) (by kernel_rfl) (by kernel_rfl) rfl (fun _ _ _ h => h) (op_assign rfl) rfl ?_)
    exact K3 _ _ _ _ (by kernel_rfl) (by exact ⟨roots, to, b7, G25, oce, ote, oRe, oMe, cce, cte, cRe, cMe, rfl, hcur, htc, hrl, hrin, hCe, hTe, hRe, hMe, hS⟩) ((Sub.cons rfl (Sub.cons rfl (Sub.cons rfl (Sub.cons rfl (Sub.cons rfl Sub.nil))))))
  ·
   refine wpOp_of_opk (i := 12) rfl ha (op_alloc hS el_28 rfl) ?_
   clear hS
   rintro _ w ⟨b7, rfl, hS⟩
   have hT := hT.back hS (by first | exact Le.refl _ | assumption) (fun x hx => by try simp only [bkA, bkB, bkC, bkD, bkE] at hx; (rcases hx with rfl) <;> simp)
   refine ⟨fun _ _ => hT, ?_⟩
   refine al_at ?_ (ha.put (blt_lt rfl) _)
   refine al_step (i := 4) rfl (by kernel_rfl) rfl (op_call_fr hS cf_13 rfl (R09_Roots_c _ _ hS.hold oc ot cs.length cc tr.length ct 400 _ ats hA oM ms.length cM (by omega) (mask) (hm0.1))) ?_
   clear hS
   rintro v22 w ⟨F22, Gr, hR22, hF22, hf22, hl22, hS⟩
   obtain ⟨roots, hR, hrl, hrm, hrm2⟩ := hR22
   obtain ⟨oR, cR, rfl, _, _⟩ := hR.elim
   replace hR := hR.mono EInt.mono hf22
   have hrin : ∀ x ∈ roots, x = -1 ∨ (0 ≤ x ∧ x < cs.length) := fun x hx => (hrm x hx).elim (fun h => .inr (hMd.at_ x h)) .inl
   obtain ⟨to, hto⟩ : ∃ to, to = movedI (liveB cs (allI roots ms)) := ⟨_, rfl⟩
   have htc : to = toC cs (allI roots ms) := hto
   have htol : to.length = cs.length := by rw [hto, movedI_len, liveB_len]
   replace hC := hC.mono ECell.mono hl22
   replace hTr := hTr.mono EInt.mono hl22
   replace hA := hA.mono EInt.mono hl22
   replace hM := hM.mono EMk.mono hl22
   (try replace hcur := hcur.trans hl22)
   have hT := hT.back hS (by first | exact Le.refl _ | assumption) (fun x hx => by try simp only [bkA, bkB, bkC, bkD, bkE] at hx; (rcases hx with rfl) <;> simp)
   refine ⟨fun _ _ => hT, ?_⟩
   refine al_step (i := 7) rfl (by kernel_rfl) rfl (op_call_rt hS cf_16 rfl (fun _ => .inl rfl) (ColR.mono) (gc_Collect_c _ _ hS.hold _ cs tr 400 (heap_ hC hTr) hsh hn6 _ roots hR _ ms hM (by omega) (by omega) hmr hmk (by omega) (by omega) (by omega))) ?_
   clear hS
   rintro v25 w ⟨G25, hl25, hR25, hS⟩
   rw [← hto] at hR25
   obtain ⟨oce, cce, ote, cte, oRe, cRe, oMe, cMe, rfl, hCe, hTe, hRe, hMe⟩ := colX hR25 rfl rfl rfl rfl
   replace hC := hC.mono ECell.mono hl25
   replace hTr := hTr.mono EInt.mono hl25
   replace hA := hA.mono EInt.mono hl25
   replace hM := hM.mono EMk.mono hl25
   replace hR := hR.mono EInt.mono hl25
   (try replace hcur := hcur.trans hl25)
   have hT := hT.back hS (by first | exact Le.refl _ | assumption) (fun x hx => by try simp only [bkA, bkB, bkC, bkD, bkE] at hx; (rcases hx with rfl) <;> simp)
   refine ⟨fun _ _ => hT, ?_⟩
   refine al_take (i := 8) rfl (by kernel_rfl) (by kernel_rfl) (by kernel_rfl) rfl (fun _ _ _ h => h) (op_move rfl) rfl (al_take (i := 9) rfl (by kernel_rfl) (by kernel_rfl) (by kernel_rfl) rfl (fun _ _ _ h => h) (op_extract (vs := [.agg #[.slice oce (cellsM to cs).length cce, .slice ote (trailM to tr).length cte, .int .i64 400], .slice oRe (toI to roots).length cRe, .slice oMe (ms.map (markM to tr)).length cMe]) rfl rfl) rfl (al_take (i := 10) rfl (by kernel_rfl) (by kernel_rfl) (by kernel_rfl) rfl (fun _ _ _ h => h) (op_extract (vs := [.agg #[.slice oce (cellsM to cs).length cce, .slice ote (trailM to tr).length cte, .int .i64 400], .slice oRe (toI to roots).length cRe, .slice oMe (ms.map (markM to tr)).length cMe]) rfl rfl) rfl (al_take (i := 11) rfl (by kernel_rfl) (by kernel_rfl) (by kernel_rfl) rfl (fun _ _ _ h => h) (op_extract (vs := [.agg #[.slice oce (cellsM to cs).length cce, .slice ote (trailM to tr).length cte, .int .i64 400], .slice oRe (toI to roots).length cRe, .slice oMe (ms.map (markM to tr)).length cMe]) rfl rfl) rfl ?_)))
   refine al_step0 (i := 13) rfl (by kernel_rfl) (op_storeN (j := 0) hS sz_28 rfl rfl rfl rfl rfl (by simp [Value.oneCell'])) ?_
   clear hS
   rintro _ w hS; (try simp only [List.nil_append, List.cons_append, List.set] at hS)
   refine ⟨no_need (by kernel_rfl), ?_⟩
   refine al_take (i := 14) rfl (by kernel_rfl) (by kernel_rfl) (by kernel_rfl) rfl (fun _ _ _ h => h) (op_assign rfl) rfl (al_take (i := 15) rfl (by kernel_rfl) (by kernel_rfl) (by kernel_rfl) rfl (fun _ _ _ h => h) (op_assign rfl) rfl ?_)
   exact K3 _ _ _ _ (by kernel_rfl) (by exact ⟨roots, to, b7, G25, oce, ote, oRe, oMe, cce, cte, cRe, cMe, rfl, hcur, htc, hrl, hrin, hCe, hTe, hRe, hMe, hS⟩) ((Sub.cons rfl (Sub.cons rfl (Sub.cons rfl (Sub.cons rfl (Sub.cons rfl Sub.nil))))))
 ·
  have hTo := hT
  clear hS hT
  rintro e w ⟨roots, to, b7, G25, oce, ote, oRe, oMe, cce, cte, cRe, cMe, rfl, hcur2, htc, hrl, hrin, hCe, hTe, hRe, hMe, hS⟩
  have hT := hTo.back hS (by first | exact Le.refl _ | assumption) (fun x hx => by try simp only [bkA, bkB, bkC, bkD, bkE] at hx; (rcases hx with rfl) <;> simp)
  clear hTo
  clear hcur
  have hcur := hcur2
  clear hcur2
  obtain ⟨hok2, hle2⟩ := col_ok htc hok
  have htl2 := hok2.trl
  have hml2 : (ms.map (markM to tr)).length = ms.length := by simp
  have hrl2 := toI_len to roots
  have hmr2 : ∀ m ∈ ms.map (markM to tr), m.roots.length ≤ 1000 := fun m hm => by
    obtain ⟨m', h5, rfl⟩ := List.mem_map.1 hm
    have := hmr m' h5
    simp only [markM, toI_len]
    exact this
  have hmk2 : ∀ m ∈ ms.map (markM to tr), MkOk (cellsM to cs).length (trailM to tr).length m := fun m hm => by
    obtain ⟨m', h5, rfl⟩ := List.mem_map.1 hm
    rw [htc]
    exact mark_ok _ _
  obtain ⟨x1, x2, x3, x4⟩ := again_x (tr := tr) htc hok
  refine al_done (by kernel_rfl) (pq_then (cw_seq (cw_seq (cw_region (ol_load rfl (op_loadN agg_28 rfl (by rfl) (fun w hw k u hk => (hw.bcell (i := 0) rfl).trans hk)) hS ?_)))))
  refine ol_step rfl (op_call_sc hS cf_23 rfl (R08_Right_c _ _ hS.hold _ (cellsM to cs) (trailM to tr) 400 (heap_ hCe hTe) hok2 (by omega) (by omega) (by omega))) ?_
  clear hS
  rintro _ w ⟨rfl, hS⟩
  refine ol_pure rfl (op_not rfl) (ol_nil (pq_then (cw_cond_f rfl (cw_skip (pq_then (cw_seq (cw_seq ?_)))))))
  refine cw_region (ol_pure rfl (op_assign rfl) (ol_nil (pq_then (cw_block ?_))))
  refine cw_loop (fun e w n => ∃ (k : Nat), e = [(5, .bool true), (7, .pointer (some ⟨b7, 0, none⟩)), (8, .slice oRe (toI to roots).length cRe), (9, .slice oMe (ms.map (markM to tr)).length cMe), (10, .int .i64 (k : Nat))] ∧ k ≤ ms.length ∧ n = ms.length - k ∧ SS G w0 G25 [.blk b7 28 [.slice oce (cellsM to cs).length cce, .slice ote (trailM to tr).length cte, .int .i64 400], .blk b6 31 [.slice oc cs.length cc, .slice ot tr.length ct, .int .i64 400, .slice oA ats.length cA, .slice oM ms.length cM]] w) _ _ (by exact ⟨0, rfl, Nat.zero_le _, rfl, hS⟩) ((Sub.cons rfl (Sub.cons rfl (Sub.cons rfl (Sub.cons rfl (Sub.cons rfl Sub.nil)))))) ?_
  clear hS
  rintro e w n ⟨k, rfl, hk, rfl, hS⟩
  refine cw_seq (cw_seq (cw_region (ol_pure rfl (op_move rfl) (ol_pure rfl (op_move rfl) (ol_pure rfl (op_val (v' := .int .i64 (ms.length : Nat)) (op_len sl_29 rfl rfl) (by rw [hml2])) (ol_pure rfl (op_lss rfl rfl) (ol_nil ?_)))))))
  refine pq_then ?_
  refine cw_cond rfl (fun h35 => ?_) (fun h35 => ?_)
  ·
   try simp only [dqT, dqF, dq1, dq2, dq3, dq4, dq5] at h35
   have hlt : k < ms.length := by omega
   obtain ⟨hoN, o8, d8, hr8, hc8⟩ := hMe.mkM hlt
   have hbd := mkM_bd (tr := tr) (cs := cs) hlt htc
   refine cw_skip (pq_then (cw_seq (cw_block (cw_seq ?_))))
   refine al_start' hS (hS.take 1) (by kernel_rfl) rfl (fun w hS hT => ?_)
   refine al_take (i := 0) rfl (by kernel_rfl) (by kernel_rfl) (by kernel_rfl) rfl (fun _ _ _ h => h) (op_move rfl) rfl (al_take (i := 1) rfl (by kernel_rfl) (by kernel_rfl) (by kernel_rfl) rfl (fun _ _ _ h => h) (op_move rfl) rfl (al_take (i := 2) rfl (by kernel_rfl) (by kernel_rfl) (by kernel_rfl) rfl (fun _ _ _ h => h) (op_indexN sl_29 rfl rfl (by omega) hoN) rfl (al_take (i := 3) rfl (by kernel_rfl) (by kernel_rfl) (by kernel_rfl) rfl (fun _ _ _ h => h) (op_fieldAddr fld_46_0 rfl) rfl (al_load (i := 4) rfl (by kernel_rfl) (by kernel_rfl) (by kernel_rfl) rfl (fun _ _ _ h => h) (by exact op_load1 one_3 rfl (fun w hw => hw.gcell (hc8 0 _ rfl))) rfl hT (al_take (i := 5) rfl (by kernel_rfl) (by kernel_rfl) (by kernel_rfl) rfl (fun _ _ _ h => h) (op_val (v' := .bool false) (op_lss rfl rfl) (congrArg Value.bool (decide_eq_false (by omega)))) rfl (al_take (i := 6) rfl (by kernel_rfl) (by kernel_rfl) (by kernel_rfl) rfl (fun _ _ _ h => h) (op_move rfl) rfl (al_gtake (i := 7) rfl (by kernel_rfl) (by kernel_rfl) (by kernel_rfl) rfl rfl rfl (fun _ _ _ h => h) (op_move rfl) rfl ?_)))))))
   refine al_gtake (i := 8) rfl (by kernel_rfl) (by kernel_rfl) (by kernel_rfl) rfl rfl rfl (fun _ _ _ h => h) (op_move rfl) rfl (al_gtake (i := 9) rfl (by kernel_rfl) (by kernel_rfl) (by kernel_rfl) rfl rfl rfl (fun _ _ _ h => h) (op_indexN sl_29 rfl rfl (by omega) hoN) rfl (al_gtake (i := 10) rfl (by kernel_rfl) (by kernel_rfl) (by kernel_rfl) rfl rfl rfl (fun _ _ _ h => h) (op_fieldAddr fld_46_0 rfl) rfl (al_gload (i := 11) rfl (by kernel_rfl) (by kernel_rfl) (by kernel_rfl) rfl rfl rfl (fun _ _ _ h => h) (by exact op_load1 one_3 rfl (fun w hw => hw.gcell (hc8 0 _ rfl))) rfl hT (al_gtake (i := 12) rfl (by kernel_rfl) (by kernel_rfl) (by kernel_rfl) rfl rfl rfl (fun _ _ _ h => h) (op_fieldAddr fld_28_0 rfl) rfl (al_gload (i := 13) rfl (by kernel_rfl) (by kernel_rfl) (by kernel_rfl) rfl rfl rfl (fun _ _ _ h => h) (by exact op_load1 one_25 rfl (fun w hw => (hw.bcell (i := 0) rfl).trans rfl)) rfl hT (al_gtake (i := 14) rfl (by kernel_rfl) (by kernel_rfl) (by kernel_rfl) rfl rfl rfl (fun _ _ _ h => h) (op_len sl_25 rfl rfl) rfl (al_gtake (i := 15) rfl (by kernel_rfl) (by kernel_rfl) (by kernel_rfl) rfl rfl rfl (fun _ _ _ h => h) (op_val (v' := .bool false) (op_gtr rfl rfl) (congrArg Value.bool (decide_eq_false (by omega)))) rfl ?_)))))))
   refine al_take (i := 16) rfl (by kernel_rfl) (by kernel_rfl) (by kernel_rfl) rfl (fun _ _ _ h => h) (op_pick_f rfl rfl) rfl (al_take (i := 17) rfl (by kernel_rfl) (by kernel_rfl) (by kernel_rfl) rfl (fun _ _ _ h => h) (op_move rfl) rfl (al_gtake (i := 18) rfl (by kernel_rfl) (by kernel_rfl) (by kernel_rfl) rfl rfl rfl (fun _ _ _ h => h) (op_move rfl) rfl (al_gtake (i := 19) rfl (by kernel_rfl) (by kernel_rfl) (by kernel_rfl) rfl rfl rfl (fun _ _ _ h => h) (op_move rfl) rfl (al_gtake (i := 20) rfl (by kernel_rfl) (by kernel_rfl) (by kernel_rfl) rfl rfl rfl (fun _ _ _ h => h) (op_indexN sl_29 rfl rfl (by omega) hoN) rfl (al_gtake (i := 21) rfl (by kernel_rfl) (by kernel_rfl) (by kernel_rfl) rfl rfl rfl (fun _ _ _ h => h) (op_fieldAddr fld_46_1 rfl) rfl (al_gload (i := 22) rfl (by kernel_rfl) (by kernel_rfl) (by kernel_rfl) rfl rfl rfl (fun _ _ _ h => h) (by exact op_load1 one_3 rfl (fun w hw => hw.gcell (hc8 1 _ rfl))) rfl hT (al_gtake (i := 23) rfl (by kernel_rfl) (by kernel_rfl) (by kernel_rfl) rfl rfl rfl (fun _ _ _ h => h) (op_val (v' := .bool false) (op_lss rfl rfl) (congrArg Value.bool (decide_eq_false (by omega)))) rfl ?_)))))))
   refine al_take (i := 24) rfl (by kernel_rfl) (by kernel_rfl) (by kernel_rfl) rfl (fun _ _ _ h => h) (op_pick_f rfl rfl) rfl (al_take (i := 25) rfl (by kernel_rfl) (by kernel_rfl) (by kernel_rfl) rfl (fun _ _ _ h => h) (op_move rfl) rfl (al_gtake (i := 26) rfl (by kernel_rfl) (by kernel_rfl) (by kernel_rfl) rfl rfl rfl (fun _ _ _ h => h) (op_move rfl) rfl (al_gtake (i := 27) rfl (by kernel_rfl) (by kernel_rfl) (by kernel_rfl) rfl rfl rfl (fun _ _ _ h => h) (op_move rfl) rfl (al_gtake (i := 28) rfl (by kernel_rfl) (by kernel_rfl) (by kernel_rfl) rfl rfl rfl (fun _ _ _ h => h) (op_indexN sl_29 rfl rfl (by omega) hoN) rfl (al_gtake (i := 29) rfl (by kernel_rfl) (by kernel_rfl) (by kernel_rfl) rfl rfl rfl (fun _ _ _ h => h) (op_fieldAddr fld_46_1 rfl) rfl (al_gload (i := 30) rfl (by kernel_rfl) (by kernel_rfl) (by kernel_rfl) rfl rfl rfl (fun _ _ _ h => h) (by exact op_load1 one_3 rfl (fun w hw => hw.gcell (hc8 1 _ rfl))) rfl hT (al_gtake (i := 31) rfl (by kernel_rfl) (by kernel_rfl) (by kernel_rfl) rfl rfl rfl (fun _ _ _ h => h) (op_fieldAddr fld_28_1 rfl) rfl ?_)))))))
   refine al_gload (i := 32) rfl (by kernel_rfl) (by kernel_rfl) (by kernel_rfl) rfl rfl rfl (fun _ _ _ h => h) (by exact op_load1 one_26 rfl (fun w hw => (hw.bcell (i := 0) rfl).trans rfl)) rfl hT (al_gtake (i := 33) rfl (by kernel_rfl) (by kernel_rfl) (by kernel_rfl) rfl rfl rfl (fun _ _ _ h => h) (op_len sl_26 rfl rfl) rfl (al_gtake (i := 34) rfl (by kernel_rfl) (by kernel_rfl) (by kernel_rfl) rfl rfl rfl (fun _ _ _ h => h) (op_val (v' := .bool false) (op_gtr rfl rfl) (congrArg Value.bool (decide_eq_false (by omega)))) rfl (al_take (i := 35) rfl (by kernel_rfl) (by kernel_rfl) (by kernel_rfl) rfl (fun _ _ _ h => h) (op_pick_f rfl rfl) rfl (al_done (by kernel_rfl) (pq_then (cw_cond_f rfl (cw_skip ?_)))))))
   refine pq_in_normal (pq_then (cw_region (ol_pure rfl (op_move rfl) (ol_pure rfl (op_add rfl rfl (by omega) (by omega)) (ol_pure rfl (op_assign rfl) (ol_nil ?_))))))
   refine pq_loop _ _ (by exact ⟨k + 1, rfl, by omega, rfl, hS⟩) ((Sub.cons rfl (Sub.cons rfl (Sub.cons rfl (Sub.cons rfl (Sub.cons rfl Sub.nil)))))) (by omega)
  ·
   try simp only [dqT, dqF, dq1, dq2, dq3, dq4, dq5] at h35
   refine cw_exit (pq_exit (pq_exit (pq_in_exit (pq_then (cw_seq (cw_region (ol_load rfl (op_loadN agg_28 rfl (by rfl) (fun w hw k u hk => (hw.bcell (i := 0) rfl).trans hk)) hS ?_)))))))
   refine ol_pure rfl (op_move rfl) (ol_pure rfl (op_move rfl) ?_)
   refine ol_step rfl (op_call_rt hS cf_16 rfl (fun _ => .inl rfl) (ColR.mono) (gc_Collect_c _ _ hS.hold _ (cellsM to cs) (trailM to tr) 400 (heap_ hCe hTe) hok2.slots.ok (by omega) _ (toI to roots) hRe _ (ms.map (markM to tr)) hMe (by omega) (by omega) hmr2 hmk2 (by omega) (by omega) (by omega))) ?_
   clear hS
   rintro v78 w ⟨G78, hl78, hR78, hS⟩
   obtain ⟨ocf, ccf, otf, ctf, oRf, cRf, oMf, cMf, rfl, hCf, hTf, hRf, hMf⟩ := colX hR78 x1 x2 x3 x4
   replace hCe := hCe.mono ECell.mono hl78
   replace hTe := hTe.mono EInt.mono hl78
   replace hRe := hRe.mono EInt.mono hl78
   replace hMe := hMe.mono EMk.mono hl78
   refine ol_pure rfl (op_move rfl) (ol_pure rfl (op_extract (vs := [.agg #[.slice ocf (cellsM to cs).length ccf, .slice otf (trailM to tr).length ctf, .int .i64 400], .slice oRf (toI to roots).length cRf, .slice oMf (ms.map (markM to tr)).length cMf]) rfl rfl) (ol_pure rfl (op_extract (vs := [.agg #[.slice ocf (cellsM to cs).length ccf, .slice otf (trailM to tr).length ctf, .int .i64 400], .slice oRf (toI to roots).length cRf, .slice oMf (ms.map (markM to tr)).length cMf]) rfl rfl) (ol_pure rfl (op_extract (vs := [.agg #[.slice ocf (cellsM to cs).length ccf, .slice otf (trailM to tr).length ctf, .int .i64 400], .slice oRf (toI to roots).length cRf, .slice oMf (ms.map (markM to tr)).length cMf]) rfl rfl) ?_)))
   refine ol_step rfl (op_alloc hS el_28 rfl) ?_
   clear hS
   rintro _ w ⟨b11, rfl, hS⟩
   refine ol_step0  (op_storeN (j := 0) hS sz_28 rfl rfl rfl rfl rfl (by simp [Value.oneCell'])) ?_
   clear hS
   rintro _ w hS; (try simp only [List.nil_append, List.cons_append, List.set] at hS)
   refine ol_pure rfl (op_assign rfl) (ol_pure rfl (op_assign rfl) (ol_nil (pq_then (cw_seq (cw_region (ol_load rfl (op_loadN agg_28 rfl (by rfl) (fun w hw k u hk => (hw.bcell (i := 0) rfl).trans hk)) hS (ol_load rfl (op_loadN agg_28 rfl (by rfl) (fun w hw k u hk => (hw.bcell (i := 1) rfl).trans hk)) hS ?_)))))))
   refine ol_step rfl (op_call_sc hS cf_18 rfl (R08_Same_c _ _ hS.hold _ _ (cellsM to cs) (cellsM to cs) (trailM to tr) (trailM to tr) 400 400 (heap_ hCf hTf) (heap_ hCe hTe) rfl rfl rfl)) ?_
   clear hS
   rintro _ w ⟨rfl, hS⟩
   refine ol_pure rfl (op_move rfl) (ol_guard_pure rfl rfl rfl (op_move rfl) (ol_guard_pure rfl rfl rfl (op_move rfl) ?_))
   refine ol_guard_step rfl rfl rfl (op_call_sc hS cf_19 rfl (ints_t hS.hold hRe hRf)) ?_
   clear hS
   rintro _ w ⟨rfl, hS⟩
   refine ol_pure rfl (op_pick_t rfl rfl) (ol_pure rfl (op_move rfl) (ol_guard_pure rfl rfl rfl (op_move rfl) (ol_guard_pure rfl rfl rfl (op_move rfl) ?_)))
   refine ol_guard_step rfl rfl rfl (op_call_sc hS cf_20 rfl (R09_SameMarks_c _ _ hS.hold _ _ _ hMe hMf)) ?_
   clear hS
   rintro _ w ⟨rfl, hS⟩
   refine ol_pure rfl (op_pick_t rfl rfl) (ol_pure rfl (op_move rfl) (ol_guard_pure rfl rfl rfl (op_move rfl) (ol_pure rfl (op_pick_t rfl rfl) (ol_pure rfl (op_assign rfl) (ol_nil (pq_then (cw_ret ?_)))))))
   refine ret1 rfl rfl ?_
   exact hS.sc_b rfl
end Go.Proofs.Ytnmkffkalnkbbaa.K
