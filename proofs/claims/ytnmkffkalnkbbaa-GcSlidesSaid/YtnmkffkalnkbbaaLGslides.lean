/-
  GcSlides: its walk.
  No condition but the premises that each theorem names.
-/
import Derived.Test.YtnmkffkalnkbbaaGcom
namespace Go.Proofs.Ytnmkffkalnkbbaa.K
open Go Go.RowKit
set_option linter.unusedVariables false
set_option linter.unusedSimpArgs false

open Pl
theorem map_ints {l : List Int} (h : ∀ x ∈ l, -9223372036854775808 ≤ x ∧ x ≤ 9223372036854775807) (G : GH) : Rows 1 EInt G (l.map (Value.int .i64)) l := (Rows.ints h).mono EInt.mono (fun b o hb => by cases hb)
/-- The slot that stays from a place. -/
theorem slid_at {cs : List Cell} {all to : List Int} (hs : ShOk cs) (htc : to = toC cs all) {k : Nat} (hk : k < cs.length) (hL : (liveB cs all)[k]'(by rw [liveB_len]; exact hk) = true) : valI to k = cntB ((liveB cs all).take k) ∧ ∃ h : cntB ((liveB cs all).take k) < (cellsM to cs).length, (cellsM to cs)[cntB ((liveB cs all).take k)] = slotM to cs[k] := by
  subst htc
  have hl : Lv cs all k := by
    unfold Lv
    rw [atB_val (by rw [liveB_len]; exact hk)]
    exact hL
  obtain ⟨q, _, hq, he, hc⟩ := (rn_col hs all).at_ hl
  have h1 := toC_live hl
  have : q = cntB ((liveB cs all).take k) := by omega
  subst this
  exact ⟨h1, hq, hc⟩
theorem slid_gone {cs : List Cell} {all to : List Int} (htc : to = toC cs all) {k : Nat} (hk : k < cs.length) (hL : (liveB cs all)[k]'(by rw [liveB_len]; exact hk) = false) : valI to k = -1 := by
  subst htc
  exact mov_dead (by rw [liveB_len]; exact hk) (by rw [atB_val (by rw [liveB_len]; exact hk)]; exact hL)
theorem cnt_all {cs : List Cell} {all : List Int} {k : Nat} (hk : cs.length ≤ k) : cntB ((liveB cs all).take k) = (cellsM (toC cs all) cs).length := by
  rw [len_col, List.take_of_length_le (by rw [liveB_len]; exact hk)]

set_option maxRecDepth 100000 in
set_option maxHeartbeats 4000000 in

theorem L09_GcSlides_c (G : GH) (w0 : World) (hG : Holds G w0) (v : Value) (l : List (Int × List Cell × Int × Int)) (h1 : RSl 4 EOp G v l) (mask : Int) (hm0 : 0 ≤ mask ∧ mask ≤ 4294967295)  :
   Calls Try.prog 6 #[v, .int .u32 mask] w0 (Sc w0 (.bool true)) := by
 refine enter Try.func6 rfl (N := 174) rfl (Nat.le_of_ble_eq_true rfl) ?_
 have hS := SS.init hG
 refine cw_seq (cw_region (ol_pure rfl (op_assign rfl) (ol_nil (pq_then (cw_seq (cw_region ?_))))))
 refine ol_step rfl (op_call_sc hS cf_11 rfl (L09_head_c G _ hS.hold)) ?_
 clear hS
 rintro _ w ⟨rfl, hS⟩
 refine ol_pure rfl (op_assign rfl) (ol_nil (pq_then (cw_seq (cw_region (ol_pure rfl (op_move rfl) ?_)))))
 refine ol_step rfl (op_call_rt hS cf_12 rfl (fun _ => .inr rfl) (fun _ _ _ hl ⟨cs, tr, ats, ms, vars, h1, h2⟩ => ⟨cs, tr, ats, ms, vars, h1.mono hl, h2⟩) (R09_Made_c _ _ hS.hold v l h1)) ?_
 clear hS
 rintro v18 w ⟨Gm, hl18, hR18, hS⟩
 obtain ⟨cs, tr, ats, ms, vars, ⟨oc, cc, ot, ct, oA, cA, oM, cM, rfl, hC, hTr, hA, hM⟩, hMd⟩ := hR18
 have hok := hMd.ok
 have hsh := hok.slots.ok
 have hn4 := hMd.few
 have htl := hok.trl
 have hal := hMd.atl
 have hml := hMd.msl
 have hn6 : cs.length ≤ 1000000 := by omega
 have hmr : ∀ m ∈ ms, m.roots.length ≤ 1000 := fun m hm => by have := (hMd.mks m hm).2.1; omega
 have hmk : ∀ m ∈ ms, MkOk cs.length tr.length m := fun m hm => (hMd.mks m hm).1
 have hmin : ∀ m ∈ ms, ∀ x ∈ m.roots, 0 ≤ x ∧ x < cs.length := fun m hm x hx => by
   have h1 := (hMd.mks m hm).2.2.1 x hx
   have h2 := hmk m hm
   unfold MkOk at h2
   omega
 refine ol_step rfl (op_alloc hS el_31 rfl) ?_
 clear hS
 rintro _ w ⟨b6, rfl, hS⟩
 refine ol_step0  (op_storeN (j := 0) hS sz_31 rfl rfl rfl rfl rfl (by simp [Value.oneCell'])) ?_
 clear hS
 rintro _ w hS; (try simp only [List.nil_append, List.cons_append, List.set] at hS)
 refine ol_nil (pq_then (cw_seq (cw_region (ol_load rfl (op_loadN agg_31 rfl (by rfl) (fun w hw k u hk => (hw.bcell (i := 0) rfl).trans hk)) hS (ol_pure rfl (op_move rfl) ?_)))))
 refine ol_step rfl (op_call cf_13 rfl (R09_Roots_own_c hS oc ot cs.length cc tr.length ct 400 _ ats hA oM ms.length cM (by omega) mask hm0.1)) ?_
 clear hS
 rintro _ w ⟨roots, oR, cR, rfl, hrl, hrm, hS⟩
 refine ol_pure rfl (op_assign rfl) (ol_nil (pq_then (cw_seq ?_)))
 have hrin : ∀ x ∈ roots, x = -1 ∨ (0 ≤ x ∧ x < cs.length) := fun x hx => (hrm x hx).elim (fun h => .inr (hMd.at_ x h)) .inl
 have hrb : ∀ x ∈ roots, -9223372036854775808 ≤ x ∧ x ≤ 9223372036854775807 := fun x hx => by have := hrin x hx; omega
 obtain ⟨to, hto⟩ : ∃ to, to = movedI (liveB cs (allI roots ms)) := ⟨_, rfl⟩
 have htc : to = toC cs (allI roots ms) := hto
 have htol : to.length = cs.length := by rw [hto, movedI_len, liveB_len]
 refine cw_region (ol_pure rfl (op_fieldAddr fld_31_0 rfl) (ol_load rfl (op_loadBS (i := 1) (o := 0) (vs := [.slice oc cs.length cc, .slice ot tr.length ct, .int .i64 400]) agg_28 rfl rfl rfl rfl) hS (ol_pure rfl (op_move rfl) (ol_pure rfl (op_fieldAddr fld_31_2 rfl) (ol_load rfl (op_load1 one_29 rfl (fun w hw => (hw.bcell (i := 1) rfl).trans rfl)) hS ?_)))))
 refine ol_step rfl (op_call_fr hS cf_16 rfl (gc_Collect_c (fullG _) _ (Holds.full _) _ cs tr 400 (heap_ (hC.mono ECell.mono hS.hold.le_full) (hTr.mono EInt.mono hS.hold.le_full)) hsh hn6 _ roots (SS.lend [] hS (by decide) EInt.mono (map_ints hrb _) rfl) _ ms (hM.mono EMk.mono hS.hold.le_full) (by omega) (by omega) hmr hmk (by omega) (by omega) (by omega))) ?_
 clear hS
 rintro v28 w ⟨F28, G28, hR28, hF28, hf28, hl28, hS⟩
 rw [← hto] at hR28
 obtain ⟨oce, cce, ote, cte, oRe, cRe, oMe, cMe, rfl, hCe, hTe, hRe, hMe⟩ := colX hR28 rfl rfl rfl rfl
 replace hCe := hCe.mono ECell.mono hf28
 replace hC := hC.mono ECell.mono hl28
 replace hTr := hTr.mono EInt.mono hl28
 replace hA := hA.mono EInt.mono hl28
 replace hM := hM.mono EMk.mono hl28
 (try replace hcur := hcur.trans hl28)
 refine ol_pure rfl (op_move rfl) (ol_pure rfl (op_extract (vs := [.agg #[.slice oce (cellsM to cs).length cce, .slice ote (trailM to tr).length cte, .int .i64 400], .slice oRe (toI to roots).length cRe, .slice oMe (ms.map (markM to tr)).length cMe]) rfl rfl) (ol_pure rfl (op_extract (vs := [.agg #[.slice oce (cellsM to cs).length cce, .slice ote (trailM to tr).length cte, .int .i64 400], .slice oRe (toI to roots).length cRe, .slice oMe (ms.map (markM to tr)).length cMe]) rfl rfl) (ol_pure rfl (op_extract (vs := [.agg #[.slice oce (cellsM to cs).length cce, .slice ote (trailM to tr).length cte, .int .i64 400], .slice oRe (toI to roots).length cRe, .slice oMe (ms.map (markM to tr)).length cMe]) rfl rfl) ?_)))
 refine ol_step rfl (op_alloc hS el_28 rfl) ?_
 clear hS
 rintro _ w ⟨b8, rfl, hS⟩
 refine ol_step0  (op_storeN (j := 0) hS sz_28 rfl rfl rfl rfl rfl (by simp [Value.oneCell'])) ?_
 clear hS
 rintro _ w hS; (try simp only [List.nil_append, List.cons_append, List.set] at hS)
 refine ol_pure rfl (op_assign rfl) (ol_pure rfl (op_assign rfl) (ol_nil (pq_then (cw_seq (cw_region (ol_pure rfl (op_fieldAddr fld_31_0 rfl) (ol_load rfl (op_loadBS (i := 2) (o := 0) (vs := [.slice oc cs.length cc, .slice ot tr.length ct, .int .i64 400]) agg_28 rfl rfl rfl rfl) hS ?_)))))))
 refine ol_pure rfl (op_move rfl) (ol_pure rfl (op_fieldAddr fld_31_2 rfl) (ol_load rfl (op_load1 one_29 rfl (fun w hw => (hw.bcell (i := 2) rfl).trans rfl)) hS ?_))
 refine ol_step rfl (op_call_fr hS cf_21 rfl (gc_Moved_c (fullG _) _ (Holds.full _) _ cs tr 400 (heap_ (hC.mono ECell.mono hS.hold.le_full) (hTr.mono EInt.mono hS.hold.le_full)) hsh hn6 _ roots (SS.lend [_] hS (by decide) EInt.mono (map_ints hrb _) rfl) _ ms (hM.mono EMk.mono hS.hold.le_full) (by omega) (by omega) hmr)) ?_
 clear hS
 rintro v37 w ⟨F37, G37, hR37, hF37, hf37, hl37, hS⟩
 rw [← hto] at hR37
 obtain ⟨oV, cV, rfl, _, _⟩ := hR37.elim
 have hV := hR37.mono EInt.mono hf37
 replace hC := hC.mono ECell.mono hl37
 replace hTr := hTr.mono EInt.mono hl37
 replace hA := hA.mono EInt.mono hl37
 replace hM := hM.mono EMk.mono hl37
 replace hCe := hCe.mono ECell.mono hl37
 (try replace hcur := hcur.trans hl37)
 refine ol_pure rfl (op_assign rfl) (ol_pure rfl (op_assign rfl) (ol_nil (pq_then (cw_seq (cw_seq (cw_region (ol_pure rfl (op_assign rfl) ?_)))))))
 refine ol_nil (pq_then (cw_block ?_))
 refine cw_loop (fun e w n => ∃ (k : Nat) (o5 : Option Addr) (l5 c5 : Nat), e = [(5, .bool true), (6, .pointer (some ⟨b6, 0, none⟩)), (7, .slice o5 l5 c5), (8, .pointer (some ⟨b8, 0, none⟩)), (11, .slice oV to.length cV), (12, .int .i64 (0)), (13, .int .i64 (k : Nat))] ∧ k ≤ ms.length ∧ n = ms.length - k ∧ l5 = (allI roots (ms.take k)).length ∧ SS G w0 G37 [.blk b8 28 [.slice oce (cellsM to cs).length cce, .slice ote (trailM to tr).length cte, .int .i64 400], .row o5 l5 c5 3 1 ((allI roots (ms.take k)).map (Value.int .i64)), .blk b6 31 [.slice oc cs.length cc, .slice ot tr.length ct, .int .i64 400, .slice oA ats.length cA, .slice oM ms.length cM]] w) _ _ (by exact ⟨0, oR, roots.length, cR, rfl, Nat.zero_le _, rfl, by simp [allI], by simpa [allI] using hS⟩) ((Sub.cons rfl (Sub.cons rfl (Sub.cons rfl (Sub.cons rfl (Sub.cons rfl (Sub.cons rfl (Sub.cons rfl Sub.nil)))))))) ?_
 clear hS
 rintro e w n ⟨k, o5, l5, c5, rfl, hk, rfl, hl5, hS⟩
 refine cw_seq (cw_seq (cw_region (ol_pure rfl (op_move rfl) (ol_pure rfl (op_fieldAddr fld_31_2 rfl) (ol_load rfl (op_load1 one_29 rfl (fun w hw => (hw.bcell (i := 2) rfl).trans rfl)) hS (ol_pure rfl (op_len sl_29 rfl rfl) (ol_pure rfl (op_lss rfl rfl) ?_)))))))
 refine ol_nil (pq_then ?_)
 refine cw_cond rfl (fun h42 => ?_) (fun h42 => ?_)
 ·
  try simp only [dqT, dqF, dq1, dq2, dq3, dq4, dq5] at h42
  have hlt : k < ms.length := by omega
  obtain ⟨hom, o9, d9, hr9, hb9, hc9⟩ := hM.mkAt hlt
  have hsu := allI_succ roots ms hlt
  have hal := allI_len (roots := roots) hmr k
  have hm9 := hmr _ (List.getElem_mem hlt)
  have hkm : ms.length * 1000 ≤ 20000 := by omega
  refine cw_skip (pq_then (cw_seq (cw_block (cw_region (ol_pure rfl (op_move rfl) (ol_pure rfl (op_fieldAddr fld_31_2 rfl) (ol_load rfl (op_load1 one_29 rfl (fun w hw => (hw.bcell (i := 2) rfl).trans rfl)) hS ?_)))))))
  refine ol_pure rfl (op_move rfl) (ol_pure rfl (op_indexN sl_29 rfl rfl (by omega) hom) (ol_pure rfl (op_fieldAddr fld_46_2 rfl) (ol_load rfl (op_load1 one_26 rfl (fun w hw => hw.gcell (hc9 2 _ rfl))) hS ?_)))
  refine ol_step rfl (op_append (j := 1) (m := ms[k].roots.length) (news := ms[k].roots.map (Value.int .i64)) hS sl_26 el_3 rfl rfl rfl rfl rfl (by simp) (by decide) (hr9.newsI hS.hold) (ones_i _) (by omega) (by unfold maxLen; omega)) ?_
  clear hS
  rintro _ w ⟨oq, c_oq, rfl, hS⟩; (try simp only [List.nil_append, List.cons_append, List.set] at hS)
  refine ol_pure rfl (op_assign rfl) (ol_nil (pq_in_normal (pq_then (cw_region (ol_pure rfl (op_move rfl) (ol_pure rfl (op_add rfl rfl (by omega) (by omega)) (ol_pure rfl (op_assign rfl) ?_)))))))
  refine ol_nil ?_
  refine pq_loop _ _ (by exact ⟨k + 1, oq, l5 + ms[k].roots.length, c_oq, rfl, by omega, rfl, by rw [hsu, List.length_append, hl5], by rw [hsu, List.map_append]; exact hS⟩) ((Sub.cons rfl (Sub.cons rfl (Sub.cons rfl (Sub.cons rfl (Sub.cons rfl (Sub.cons rfl (Sub.cons rfl Sub.nil)))))))) (by omega)
 ·
  try simp only [dqT, dqF, dq1, dq2, dq3, dq4, dq5] at h42
  obtain rfl : k = ms.length := by omega
  rw [List.take_length] at hS hl5
  have hal := allI_len (roots := roots) hmr ms.length
  rw [List.take_length] at hal
  have hkm : ms.length * 1000 ≤ 20000 := by omega
  have hab : ∀ x ∈ allI roots ms, -9223372036854775808 ≤ x ∧ x ≤ 9223372036854775807 := fun x hx => by
    rcases allI_mem.1 hx with hx | ⟨m, hm, hx⟩
    · exact hrb x hx
    · have := hmin m hm x hx
      omega
  refine cw_exit (pq_exit (pq_exit (pq_in_exit (pq_then (cw_seq (cw_region (ol_pure rfl (op_fieldAddr fld_31_0 rfl) ?_)))))))
  refine ol_load rfl (op_loadBS (i := 2) (o := 0) (vs := [.slice oc cs.length cc, .slice ot tr.length ct, .int .i64 400]) agg_28 rfl rfl rfl rfl) hS (ol_pure rfl (op_move rfl) ?_)
  refine ol_step rfl (op_call_fr hS cf_14 rfl (gc_Live_c (fullG _) _ (Holds.full _) _ cs tr 400 (heap_ (hC.mono ECell.mono hS.hold.le_full) (hTr.mono EInt.mono hS.hold.le_full)) _ (allI roots ms) (SS.lend [_] hS (by decide) EInt.mono (map_ints hab _) hl5) hsh hn6 (by omega))) ?_
  clear hS
  rintro v56 w ⟨F56, G56, hR56, hF56, hf56, hl56, hS⟩
  obtain ⟨oL, cL, rfl, _, _⟩ := hR56.elimN (n := cs.length) (liveB_len _ _)
  have hL := hR56.mono EBool.mono hf56
  replace hC := hC.mono ECell.mono hl56
  replace hTr := hTr.mono EInt.mono hl56
  replace hA := hA.mono EInt.mono hl56
  replace hM := hM.mono EMk.mono hl56
  replace hCe := hCe.mono ECell.mono hl56
  replace hV := hV.mono EInt.mono hl56
  (try replace hcur := hcur.trans hl56)
  refine ol_pure rfl (op_assign rfl) (ol_nil (pq_then (cw_seq (cw_seq (cw_region (ol_pure rfl (op_move rfl) (ol_pure rfl (op_len sl_26 rfl rfl) ?_)))))))
  refine ol_pure rfl (op_fieldAddr fld_31_0 rfl) (ol_pure rfl (op_fieldAddr2 (o := 0) (q := 0) fld_28_0 rfl (by decide)) (ol_load rfl (op_load1 one_25 rfl (fun w hw => (hw.bcell (i := 2) rfl).trans rfl)) hS (ol_pure rfl (op_len sl_25 rfl rfl) (ol_pure rfl (op_neqF rfl rfl (by omega)) (ol_pure rfl (op_move rfl) (ol_guard_pure rfl rfl rfl (op_move rfl) (ol_guard_pure rfl rfl rfl (op_len sl_34 rfl rfl) ?_)))))))
  refine ol_guard_pure rfl rfl rfl (op_move rfl) (ol_guard_pure rfl rfl rfl (op_len sl_26 rfl rfl) (ol_guard_pure rfl rfl rfl (op_neqF rfl rfl (by omega)) (ol_pure rfl (op_pick_f rfl rfl) (ol_nil (pq_then (cw_cond_f rfl (cw_skip ?_)))))))
  refine pq_then (cw_seq (cw_seq (cw_region (ol_pure rfl (op_assign rfl) (ol_nil (pq_then (cw_block ?_)))))))
  refine cw_loop (fun e w n => ∃ (k m : Nat), e = [(5, .bool true), (6, .pointer (some ⟨b6, 0, none⟩)), (8, .pointer (some ⟨b8, 0, none⟩)), (11, .slice oV to.length cV), (12, .int .i64 (m : Nat)), (14, .slice oL cs.length cL), (15, .int .i64 (k : Nat))] ∧ k ≤ cs.length ∧ n = cs.length - k ∧ m = cntB ((liveB cs (allI roots ms)).take k) ∧ m ≤ k ∧ SS G w0 G56 [.blk b8 28 [.slice oce (cellsM to cs).length cce, .slice ote (trailM to tr).length cte, .int .i64 400], .row o5 l5 c5 3 1 ((allI roots ms).map (Value.int .i64)), .blk b6 31 [.slice oc cs.length cc, .slice ot tr.length ct, .int .i64 400, .slice oA ats.length cA, .slice oM ms.length cM]] w) _ _ (by exact ⟨0, 0, rfl, Nat.zero_le _, rfl, by simp [cntB], Nat.le_refl _, hS⟩) ((Sub.cons rfl (Sub.cons rfl (Sub.cons rfl (Sub.cons rfl (Sub.cons rfl (Sub.cons rfl (Sub.cons rfl Sub.nil)))))))) ?_
  clear hS
  rintro e w n ⟨k, m, rfl, hk, rfl, hm, hmk2, hS⟩
  refine cw_seq (cw_seq (cw_region (ol_pure rfl (op_move rfl) (ol_pure rfl (op_move rfl) (ol_pure rfl (op_len sl_26 rfl rfl) (ol_pure rfl (op_lss rfl rfl) (ol_nil ?_)))))))
  refine pq_then ?_
  refine cw_cond rfl (fun h74 => ?_) (fun h74 => ?_)
  ·
   try simp only [dqT, dqF, dq1, dq2, dq3, dq4, dq5] at h74
   have hlt : k < cs.length := by omega
   have hlb : k < (liveB cs (allI roots ms)).length := by rw [liveB_len]; exact hlt
   have hltt : k < to.length := by omega
   obtain ⟨hoL, hcL⟩ := hL.bool hlb
   obtain ⟨hoV, hcV, _⟩ := hV.int hltt
   have hvt := valI_at hltt
   obtain ⟨hoc, hbd, hcells⟩ := hC.cellAt hlt
   have hge : decide (0 ≤ to[k]) = (liveB cs (allI roots ms))[k] := by
     cases hb : (liveB cs (allI roots ms))[k] with
     | true => have := (slid_at hsh htc hlt hb).1; rw [← hvt, this]; simp
     | false => have := slid_gone htc hlt hb; rw [← hvt, this]; rfl
   refine cw_skip (pq_then (cw_seq (cw_block (cw_seq (cw_seq ?_)))))
   refine al_start' hS (hS.take 0) (by kernel_rfl) rfl (fun w hS hT => ?_)
   refine al_take (i := 0) rfl (by kernel_rfl) (by kernel_rfl) (by kernel_rfl) rfl (fun _ _ _ h => h) (op_move rfl) rfl (al_take (i := 1) rfl (by kernel_rfl) (by kernel_rfl) (by kernel_rfl) rfl (fun _ _ _ h => h) (op_move rfl) rfl (al_take (i := 2) rfl (by kernel_rfl) (by kernel_rfl) (by kernel_rfl) rfl (fun _ _ _ h => h) (op_indexN sl_34 rfl rfl (by omega) hoL) rfl (al_load (i := 3) rfl (by kernel_rfl) (by kernel_rfl) (by kernel_rfl) rfl (fun _ _ _ h => h) (by exact op_load1 one_4 rfl (fun w hw => hw.gcell hcL)) rfl hT (al_take (i := 4) rfl (by kernel_rfl) (by kernel_rfl) (by kernel_rfl) rfl (fun _ _ _ h => h) (op_move rfl) rfl (al_take (i := 5) rfl (by kernel_rfl) (by kernel_rfl) (by kernel_rfl) rfl (fun _ _ _ h => h) (op_move rfl) rfl (al_take (i := 6) rfl (by kernel_rfl) (by kernel_rfl) (by kernel_rfl) rfl (fun _ _ _ h => h) (op_indexN sl_26 rfl rfl (by omega) hoV) rfl (al_load (i := 7) rfl (by kernel_rfl) (by kernel_rfl) (by kernel_rfl) rfl (fun _ _ _ h => h) (by exact op_load1 one_3 rfl (fun w hw => hw.gcell hcV)) rfl hT ?_)))))))
   refine al_take (i := 8) rfl (by kernel_rfl) (by kernel_rfl) (by kernel_rfl) rfl (fun _ _ _ h => h) (op_geq rfl rfl) rfl (al_take (i := 9) rfl (by kernel_rfl) (by kernel_rfl) (by kernel_rfl) rfl (fun _ _ _ h => h) (op_val (v' := .bool false) (op_neqB Try.underlying4 rfl rfl) (by rw [hge]; simp)) rfl (al_take (i := 10) rfl (by kernel_rfl) (by kernel_rfl) (by kernel_rfl) rfl (fun _ _ _ h => h) (op_move rfl) rfl (al_gtake (i := 11) rfl (by kernel_rfl) (by kernel_rfl) (by kernel_rfl) rfl rfl rfl (fun _ _ _ h => h) (op_move rfl) rfl (al_gtake (i := 12) rfl (by kernel_rfl) (by kernel_rfl) (by kernel_rfl) rfl rfl rfl (fun _ _ _ h => h) (op_move rfl) rfl (al_gtake (i := 13) rfl (by kernel_rfl) (by kernel_rfl) (by kernel_rfl) rfl rfl rfl (fun _ _ _ h => h) (op_indexN sl_34 rfl rfl (by omega) hoL) rfl (al_gload (i := 14) rfl (by kernel_rfl) (by kernel_rfl) (by kernel_rfl) rfl rfl rfl (fun _ _ _ h => h) (by exact op_load1 one_4 rfl (fun w hw => hw.gcell hcL)) rfl hT (al_gtake (i := 15) rfl (by kernel_rfl) (by kernel_rfl) (by kernel_rfl) rfl rfl rfl (fun _ _ _ h => h) (op_move rfl) rfl ?_)))))))
   refine al_split (fun h92 => ?_) (fun h92 => ?_)
   ·
    try simp only [dqT, dqF, dq1, dq2, dq3, dq4, dq5] at h92
    obtain ⟨hv1, hn1, hcn⟩ := slid_at hsh htc hlt h92
    have hcl := cntB_live (l := (liveB cs (allI roots ms))) (p := k) (by rw [atB_val hlb]; exact h92)
    have htk : to[k] = (m : Nat) := by rw [← hvt, hv1, hm]
    rw [← hm] at hn1 hcl
    have hcn2 : (cellsM to cs)[m] = slotM to cs[k] := by simp only [hm]; exact hcn
    obtain ⟨hoe, _, hcelle⟩ := hCe.cellAt hn1
    rw [hcn2] at hcelle
    refine al_gtake (i := 16) rfl (by kernel_rfl) (by kernel_rfl) (by kernel_rfl) rfl rfl rfl (fun _ _ _ h => h) (op_move rfl) rfl (al_gtake (i := 17) rfl (by kernel_rfl) (by kernel_rfl) (by kernel_rfl) rfl rfl rfl (fun _ _ _ h => h) (op_move rfl) rfl (al_gtake (i := 18) rfl (by kernel_rfl) (by kernel_rfl) (by kernel_rfl) rfl rfl rfl (fun _ _ _ h => h) (op_indexN sl_26 rfl rfl (by omega) hoV) rfl (al_gload (i := 19) rfl (by kernel_rfl) (by kernel_rfl) (by kernel_rfl) rfl rfl rfl (fun _ _ _ h => h) (by exact op_load1 one_3 rfl (fun w hw => hw.gcell hcV)) rfl hT (al_gtake (i := 20) rfl (by kernel_rfl) (by kernel_rfl) (by kernel_rfl) rfl rfl rfl (fun _ _ _ h => h) (op_move rfl) rfl (al_gtake (i := 21) rfl (by kernel_rfl) (by kernel_rfl) (by kernel_rfl) rfl rfl rfl (fun _ _ _ h => h) (op_neqF rfl rfl (htk)) rfl (al_gtake (i := 22) rfl (by kernel_rfl) (by kernel_rfl) (by kernel_rfl) rfl rfl rfl (fun _ _ _ h => h) (op_pick_t rfl rfl) rfl (al_take (i := 23) rfl (by kernel_rfl) (by kernel_rfl) (by kernel_rfl) rfl (fun _ _ _ h => h) (op_pick_f rfl rfl) rfl ?_)))))))
    refine al_take (i := 24) rfl (by kernel_rfl) (by kernel_rfl) (by kernel_rfl) rfl (fun _ _ _ h => h) (op_move rfl) rfl (al_gtake (i := 25) rfl (by kernel_rfl) (by kernel_rfl) (by kernel_rfl) rfl rfl rfl (fun _ _ _ h => h) (op_move rfl) rfl (al_gtake (i := 26) rfl (by kernel_rfl) (by kernel_rfl) (by kernel_rfl) rfl rfl rfl (fun _ _ _ h => h) (op_move rfl) rfl (al_gtake (i := 27) rfl (by kernel_rfl) (by kernel_rfl) (by kernel_rfl) rfl rfl rfl (fun _ _ _ h => h) (op_indexN sl_34 rfl rfl (by omega) hoL) rfl (al_gload (i := 28) rfl (by kernel_rfl) (by kernel_rfl) (by kernel_rfl) rfl rfl rfl (fun _ _ _ h => h) (by exact op_load1 one_4 rfl (fun w hw => hw.gcell (by rw [h92] at hcL; exact hcL))) rfl hT (al_gtake (i := 29) rfl (by kernel_rfl) (by kernel_rfl) (by kernel_rfl) rfl rfl rfl (fun _ _ _ h => h) (op_not rfl) rfl (al_gtake (i := 30) rfl (by kernel_rfl) (by kernel_rfl) (by kernel_rfl) rfl rfl rfl (fun _ _ _ h => h) (op_move rfl) rfl (al_gskip (i := 31) rfl (by kernel_rfl) (by kernel_rfl) (by kernel_rfl) rfl rfl rfl rfl (fun _ _ _ h => h) (fun _ => hT) ?_)))))))
    refine al_gskip (i := 32) rfl (by kernel_rfl) (by kernel_rfl) (by kernel_rfl) rfl rfl rfl rfl (fun _ _ _ h => h) (fun _ => hT) (al_gskip (i := 33) rfl (by kernel_rfl) (by kernel_rfl) (by kernel_rfl) rfl rfl rfl rfl (fun _ _ _ h => h) (fun _ => hT) (al_gskip (i := 34) rfl (by kernel_rfl) (by kernel_rfl) (by kernel_rfl) rfl rfl rfl rfl (fun _ _ _ h => h) (fun _ => hT) (al_gskip (i := 35) rfl (by kernel_rfl) (by kernel_rfl) (by kernel_rfl) rfl rfl rfl rfl (fun _ _ _ h => h) (fun _ => hT) (al_gtake (i := 36) rfl (by kernel_rfl) (by kernel_rfl) (by kernel_rfl) rfl rfl rfl (fun _ _ _ h => h) (op_pick_f rfl rfl) rfl (al_take (i := 37) rfl (by kernel_rfl) (by kernel_rfl) (by kernel_rfl) rfl (fun _ _ _ h => h) (op_pick_f rfl rfl) rfl (al_done (by kernel_rfl) (pq_then ?_)))))))
    refine cw_cond_f rfl (cw_skip (pq_then (cw_seq (cw_region (ol_pure rfl (op_move rfl) (ol_pure rfl (op_move rfl) (ol_pure rfl (op_indexN sl_34 rfl rfl (by omega) hoL) ?_)))))))
    refine ol_load rfl (op_load1 one_4 rfl (fun w hw => hw.gcell (by rw [h92] at hcL; exact hcL))) hS (ol_nil (pq_then (cw_cond_t rfl (cw_seq (cw_seq ?_)))))
    refine al_start' hS (hS.take 3) (by kernel_rfl) rfl (fun w hS hT => ?_)
    refine al_take (i := 0) rfl (by kernel_rfl) (by kernel_rfl) (by kernel_rfl) rfl (fun _ _ _ h => h) (op_move rfl) rfl (al_take (i := 1) rfl (by kernel_rfl) (by kernel_rfl) (by kernel_rfl) rfl (fun _ _ _ h => h) (op_fieldAddr fld_28_0 rfl) rfl (al_load (i := 2) rfl (by kernel_rfl) (by kernel_rfl) (by kernel_rfl) rfl (fun _ _ _ h => h) (by exact op_load1 one_25 rfl (fun w hw => (hw.bcell (i := 0) rfl).trans rfl)) rfl hT (al_take (i := 3) rfl (by kernel_rfl) (by kernel_rfl) (by kernel_rfl) rfl (fun _ _ _ h => h) (op_len sl_25 rfl rfl) rfl (al_take (i := 4) rfl (by kernel_rfl) (by kernel_rfl) (by kernel_rfl) rfl (fun _ _ _ h => h) (op_val (v' := .bool false) (op_geq rfl rfl) (congrArg Value.bool (decide_eq_false (by omega)))) rfl (al_take (i := 5) rfl (by kernel_rfl) (by kernel_rfl) (by kernel_rfl) rfl (fun _ _ _ h => h) (op_move rfl) rfl (al_gtake (i := 6) rfl (by kernel_rfl) (by kernel_rfl) (by kernel_rfl) rfl rfl rfl (fun _ _ _ h => h) (op_fieldAddr fld_28_0 rfl) rfl (al_gload (i := 7) rfl (by kernel_rfl) (by kernel_rfl) (by kernel_rfl) rfl rfl rfl (fun _ _ _ h => h) (by exact op_load1 one_25 rfl (fun w hw => (hw.bcell (i := 0) rfl).trans rfl)) rfl hT ?_)))))))
    refine al_gtake (i := 8) rfl (by kernel_rfl) (by kernel_rfl) (by kernel_rfl) rfl rfl rfl (fun _ _ _ h => h) (op_move rfl) rfl (al_gtake (i := 9) rfl (by kernel_rfl) (by kernel_rfl) (by kernel_rfl) rfl rfl rfl (fun _ _ _ h => h) (op_indexN sl_25 rfl rfl (by omega) hoe) rfl (al_gtake (i := 10) rfl (by kernel_rfl) (by kernel_rfl) (by kernel_rfl) rfl rfl rfl (fun _ _ _ h => h) (op_fieldAddr fld_49_0 rfl) rfl (al_gload (i := 11) rfl (by kernel_rfl) (by kernel_rfl) (by kernel_rfl) rfl rfl rfl (fun _ _ _ h => h) (by exact op_load1 one_3 rfl (fun w hw => hw.gcell (hcelle 0 _ rfl))) rfl hT (al_gtake (i := 12) rfl (by kernel_rfl) (by kernel_rfl) (by kernel_rfl) rfl rfl rfl (fun _ _ _ h => h) (op_fieldAddr fld_31_0 rfl) rfl (al_gtake (i := 13) rfl (by kernel_rfl) (by kernel_rfl) (by kernel_rfl) rfl rfl rfl (fun _ _ _ h => h) (op_fieldAddr2 (o := 0) (q := 0) fld_28_0 rfl (by decide)) rfl (al_gload (i := 14) rfl (by kernel_rfl) (by kernel_rfl) (by kernel_rfl) rfl rfl rfl (fun _ _ _ h => h) (by exact op_load1 one_25 rfl (fun w hw => (hw.bcell (i := 2) rfl).trans rfl)) rfl hT (al_gtake (i := 15) rfl (by kernel_rfl) (by kernel_rfl) (by kernel_rfl) rfl rfl rfl (fun _ _ _ h => h) (op_move rfl) rfl ?_)))))))
    refine al_gtake (i := 16) rfl (by kernel_rfl) (by kernel_rfl) (by kernel_rfl) rfl rfl rfl (fun _ _ _ h => h) (op_indexN sl_25 rfl rfl (by omega) hoc) rfl (al_gtake (i := 17) rfl (by kernel_rfl) (by kernel_rfl) (by kernel_rfl) rfl rfl rfl (fun _ _ _ h => h) (op_fieldAddr fld_49_0 rfl) rfl (al_gload (i := 18) rfl (by kernel_rfl) (by kernel_rfl) (by kernel_rfl) rfl rfl rfl (fun _ _ _ h => h) (by exact op_load1 one_3 rfl (fun w hw => hw.gcell (hcells 0 _ rfl))) rfl hT (al_gtake (i := 19) rfl (by kernel_rfl) (by kernel_rfl) (by kernel_rfl) rfl rfl rfl (fun _ _ _ h => h) (op_neqF rfl rfl (slotM_kind _ _)) rfl (al_take (i := 20) rfl (by kernel_rfl) (by kernel_rfl) (by kernel_rfl) rfl (fun _ _ _ h => h) (op_pick_f rfl rfl) rfl (al_take (i := 21) rfl (by kernel_rfl) (by kernel_rfl) (by kernel_rfl) rfl (fun _ _ _ h => h) (op_move rfl) rfl (al_gtake (i := 22) rfl (by kernel_rfl) (by kernel_rfl) (by kernel_rfl) rfl rfl rfl (fun _ _ _ h => h) (op_fieldAddr fld_28_0 rfl) rfl (al_gload (i := 23) rfl (by kernel_rfl) (by kernel_rfl) (by kernel_rfl) rfl rfl rfl (fun _ _ _ h => h) (by exact op_load1 one_25 rfl (fun w hw => (hw.bcell (i := 0) rfl).trans rfl)) rfl hT ?_)))))))
    refine al_gtake (i := 24) rfl (by kernel_rfl) (by kernel_rfl) (by kernel_rfl) rfl rfl rfl (fun _ _ _ h => h) (op_move rfl) rfl (al_gtake (i := 25) rfl (by kernel_rfl) (by kernel_rfl) (by kernel_rfl) rfl rfl rfl (fun _ _ _ h => h) (op_indexN sl_25 rfl rfl (by omega) hoe) rfl (al_gtake (i := 26) rfl (by kernel_rfl) (by kernel_rfl) (by kernel_rfl) rfl rfl rfl (fun _ _ _ h => h) (op_fieldAddr fld_49_1 rfl) rfl (al_gload (i := 27) rfl (by kernel_rfl) (by kernel_rfl) (by kernel_rfl) rfl rfl rfl (fun _ _ _ h => h) (by exact op_load1 one_9 rfl (fun w hw => hw.gcell (hcelle 1 _ rfl))) rfl hT (al_gtake (i := 28) rfl (by kernel_rfl) (by kernel_rfl) (by kernel_rfl) rfl rfl rfl (fun _ _ _ h => h) (op_fieldAddr fld_31_0 rfl) rfl (al_gtake (i := 29) rfl (by kernel_rfl) (by kernel_rfl) (by kernel_rfl) rfl rfl rfl (fun _ _ _ h => h) (op_fieldAddr2 (o := 0) (q := 0) fld_28_0 rfl (by decide)) rfl (al_gload (i := 30) rfl (by kernel_rfl) (by kernel_rfl) (by kernel_rfl) rfl rfl rfl (fun _ _ _ h => h) (by exact op_load1 one_25 rfl (fun w hw => (hw.bcell (i := 2) rfl).trans rfl)) rfl hT (al_gtake (i := 31) rfl (by kernel_rfl) (by kernel_rfl) (by kernel_rfl) rfl rfl rfl (fun _ _ _ h => h) (op_move rfl) rfl ?_)))))))
    refine al_gtake (i := 32) rfl (by kernel_rfl) (by kernel_rfl) (by kernel_rfl) rfl rfl rfl (fun _ _ _ h => h) (op_indexN sl_25 rfl rfl (by omega) hoc) rfl (al_gtake (i := 33) rfl (by kernel_rfl) (by kernel_rfl) (by kernel_rfl) rfl rfl rfl (fun _ _ _ h => h) (op_fieldAddr fld_49_1 rfl) rfl (al_gload (i := 34) rfl (by kernel_rfl) (by kernel_rfl) (by kernel_rfl) rfl rfl rfl (fun _ _ _ h => h) (by exact op_load1 one_9 rfl (fun w hw => hw.gcell (hcells 1 _ rfl))) rfl hT (al_gtake (i := 35) rfl (by kernel_rfl) (by kernel_rfl) (by kernel_rfl) rfl rfl rfl (fun _ _ _ h => h) (op_val (v' := .bool false) (op_neqS rfl rfl) (by rw [slotM_name]; simp)) rfl (al_take (i := 36) rfl (by kernel_rfl) (by kernel_rfl) (by kernel_rfl) rfl (fun _ _ _ h => h) (op_pick_f rfl rfl) rfl (al_done (by kernel_rfl) (pq_then (cw_cond_f rfl ?_)))))))
    refine cw_skip (pq_then (cw_region (ol_pure rfl (op_move rfl) (ol_pure rfl (op_add rfl rfl (by omega) (by omega)) (ol_pure rfl (op_assign rfl) (ol_nil (pq_in_normal ?_)))))))
    refine pq_then (cw_region (ol_pure rfl (op_move rfl) (ol_pure rfl (op_add rfl rfl (by omega) (by omega)) (ol_pure rfl (op_assign rfl) (ol_nil ?_)))))
    refine pq_loop _ _ (by exact ⟨k + 1, m + 1, rfl, by omega, rfl, hcl.symm, by omega, hS⟩) ((Sub.cons rfl (Sub.cons rfl (Sub.cons rfl (Sub.cons rfl (Sub.cons rfl (Sub.cons rfl (Sub.cons rfl Sub.nil)))))))) (by omega)
   ·
    try simp only [dqT, dqF, dq1, dq2, dq3, dq4, dq5] at h92
    have hv1 := slid_gone htc hlt h92
    have hcl : cntB ((liveB cs (allI roots ms)).take (k + 1)) = m := by
      rw [cntB_succ hlb, if_neg (by rw [h92]; simp), hm]
      rfl
    refine al_gskip (i := 16) rfl (by kernel_rfl) (by kernel_rfl) (by kernel_rfl) rfl rfl rfl rfl (fun _ _ _ h => h) (fun _ => hT) (al_gskip (i := 17) rfl (by kernel_rfl) (by kernel_rfl) (by kernel_rfl) rfl rfl rfl rfl (fun _ _ _ h => h) (fun _ => hT) (al_gskip (i := 18) rfl (by kernel_rfl) (by kernel_rfl) (by kernel_rfl) rfl rfl rfl rfl (fun _ _ _ h => h) (fun _ => hT) (al_gskip (i := 19) rfl (by kernel_rfl) (by kernel_rfl) (by kernel_rfl) rfl rfl rfl rfl (fun _ _ _ h => h) (fun _ => hT) (al_gskip (i := 20) rfl (by kernel_rfl) (by kernel_rfl) (by kernel_rfl) rfl rfl rfl rfl (fun _ _ _ h => h) (fun _ => hT) (al_gskip (i := 21) rfl (by kernel_rfl) (by kernel_rfl) (by kernel_rfl) rfl rfl rfl rfl (fun _ _ _ h => h) (fun _ => hT) (al_gtake (i := 22) rfl (by kernel_rfl) (by kernel_rfl) (by kernel_rfl) rfl rfl rfl (fun _ _ _ h => h) (op_pick_f rfl rfl) rfl (al_take (i := 23) rfl (by kernel_rfl) (by kernel_rfl) (by kernel_rfl) rfl (fun _ _ _ h => h) (op_pick_f rfl rfl) rfl ?_)))))))
    refine al_take (i := 24) rfl (by kernel_rfl) (by kernel_rfl) (by kernel_rfl) rfl (fun _ _ _ h => h) (op_move rfl) rfl (al_gtake (i := 25) rfl (by kernel_rfl) (by kernel_rfl) (by kernel_rfl) rfl rfl rfl (fun _ _ _ h => h) (op_move rfl) rfl (al_gtake (i := 26) rfl (by kernel_rfl) (by kernel_rfl) (by kernel_rfl) rfl rfl rfl (fun _ _ _ h => h) (op_move rfl) rfl (al_gtake (i := 27) rfl (by kernel_rfl) (by kernel_rfl) (by kernel_rfl) rfl rfl rfl (fun _ _ _ h => h) (op_indexN sl_34 rfl rfl (by omega) hoL) rfl (al_gload (i := 28) rfl (by kernel_rfl) (by kernel_rfl) (by kernel_rfl) rfl rfl rfl (fun _ _ _ h => h) (by exact op_load1 one_4 rfl (fun w hw => hw.gcell (by rw [h92] at hcL; exact hcL))) rfl hT (al_gtake (i := 29) rfl (by kernel_rfl) (by kernel_rfl) (by kernel_rfl) rfl rfl rfl (fun _ _ _ h => h) (op_not rfl) rfl (al_gtake (i := 30) rfl (by kernel_rfl) (by kernel_rfl) (by kernel_rfl) rfl rfl rfl (fun _ _ _ h => h) (op_move rfl) rfl (al_gtake (i := 31) rfl (by kernel_rfl) (by kernel_rfl) (by kernel_rfl) rfl rfl rfl (fun _ _ _ h => h) (op_move rfl) rfl ?_)))))))
    refine al_gtake (i := 32) rfl (by kernel_rfl) (by kernel_rfl) (by kernel_rfl) rfl rfl rfl (fun _ _ _ h => h) (op_move rfl) rfl (al_gtake (i := 33) rfl (by kernel_rfl) (by kernel_rfl) (by kernel_rfl) rfl rfl rfl (fun _ _ _ h => h) (op_indexN sl_26 rfl rfl (by omega) hoV) rfl (al_gload (i := 34) rfl (by kernel_rfl) (by kernel_rfl) (by kernel_rfl) rfl rfl rfl (fun _ _ _ h => h) (by exact op_load1 one_3 rfl (fun w hw => hw.gcell hcV)) rfl hT (al_gtake (i := 35) rfl (by kernel_rfl) (by kernel_rfl) (by kernel_rfl) rfl rfl rfl (fun _ _ _ h => h) (op_neqF rfl rfl (by rw [← hvt, hv1])) rfl (al_gtake (i := 36) rfl (by kernel_rfl) (by kernel_rfl) (by kernel_rfl) rfl rfl rfl (fun _ _ _ h => h) (op_pick_t rfl rfl) rfl (al_take (i := 37) rfl (by kernel_rfl) (by kernel_rfl) (by kernel_rfl) rfl (fun _ _ _ h => h) (op_pick_f rfl rfl) rfl (al_done (by kernel_rfl) (pq_then ?_)))))))
    refine cw_cond_f rfl (cw_skip (pq_then (cw_seq (cw_region (ol_pure rfl (op_move rfl) (ol_pure rfl (op_move rfl) (ol_pure rfl (op_indexN sl_34 rfl rfl (by omega) hoL) ?_)))))))
    refine ol_load rfl (op_load1 one_4 rfl (fun w hw => hw.gcell (by rw [h92] at hcL; exact hcL))) hS (ol_nil (pq_then (cw_cond_f rfl (cw_skip (pq_in_normal (pq_then (cw_region ?_)))))))
    refine ol_pure rfl (op_move rfl) (ol_pure rfl (op_add rfl rfl (by omega) (by omega)) (ol_pure rfl (op_assign rfl) (ol_nil ?_)))
    refine pq_loop _ _ (by exact ⟨k + 1, m, rfl, by omega, rfl, hcl.symm, by omega, hS⟩) ((Sub.cons rfl (Sub.cons rfl (Sub.cons rfl (Sub.cons rfl (Sub.cons rfl (Sub.cons rfl (Sub.cons rfl Sub.nil)))))))) (by omega)
  ·
   try simp only [dqT, dqF, dq1, dq2, dq3, dq4, dq5] at h74
   refine cw_exit (pq_exit (pq_exit (pq_in_exit (pq_then (cw_seq (cw_region (ol_pure rfl (op_fieldAddr fld_28_0 rfl) ?_)))))))
   refine ol_load rfl (op_load1 one_25 rfl (fun w hw => (hw.bcell (i := 0) rfl).trans rfl)) hS (ol_pure rfl (op_len sl_25 rfl rfl) (ol_pure rfl (op_move rfl) (ol_pure rfl (op_eqlT rfl rfl (by have := cnt_all (cs := cs) (all := allI roots ms) (k := k) (by omega); rw [← htc] at this; omega)) (ol_pure rfl (op_move rfl) (ol_guard_pure rfl rfl rfl (op_fieldAddr fld_28_2 rfl) (ol_guard_load rfl rfl rfl (op_load1 one_3 rfl (fun w hw => (hw.bcell (i := 0) rfl).trans rfl)) hS (ol_guard_pure rfl rfl rfl (op_fieldAddr fld_31_0 rfl) ?_)))))))
   refine ol_guard_pure rfl rfl rfl (op_fieldAddr2 (o := 0) (q := 2) fld_28_2 rfl (by decide)) (ol_guard_load rfl rfl rfl (op_load1 one_3 rfl (fun w hw => (hw.bcell (i := 2) rfl).trans rfl)) hS (ol_guard_pure rfl rfl rfl (op_eqlT rfl rfl (rfl)) (ol_pure rfl (op_pick_t rfl rfl) (ol_pure rfl (op_move rfl) (ol_guard_pure rfl rfl rfl (op_move rfl) (ol_pure rfl (op_pick_t rfl rfl) (ol_pure rfl (op_assign rfl) ?_)))))))
   refine ol_nil (pq_then (cw_ret (ret1 rfl rfl ?_)))
   exact hS.sc_b rfl
end Go.Proofs.Ytnmkffkalnkbbaa.K
