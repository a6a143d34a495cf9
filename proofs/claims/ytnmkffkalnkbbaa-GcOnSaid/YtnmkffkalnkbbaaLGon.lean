/-
  GcOn: its walk.
  No condition but the premises that each theorem names.
-/
import Derived.Test.YtnmkffkalnkbbaaGcom
import Derived.Test.YtnmkffkalnkbbaaPhn
namespace Go.Proofs.Ytnmkffkalnkbbaa.K
open Go Go.RowKit
set_option linter.unusedVariables false
set_option linter.unusedSimpArgs false

open Pl
theorem UI.up {N n n' : Nat} {cs : List Cell} {row seen : List (Int × Int)} (h : UI N n cs row seen) (hn : n ≤ n') : UI N n' cs row seen := ⟨h.len, h.sh, h.rk, h.rowp, h.seenp, h.nodup, by have := h.fuel; omega⟩
theorem unif_ok {cs : List Cell} {tr : List Int} {n : Nat} {a b : Int} (h : HpOk cs tr) (hU : UI cs.length n cs [(a, b)] []) : HpOk ((unif n cs tr [(a, b)] []).getD (cs, tr)).1 ((unif n cs tr [(a, b)] []).getD (cs, tr)).2 ∧ ((unif n cs tr [(a, b)] []).getD (cs, tr)).1.length = cs.length := by
  cases he : unif n cs tr [(a, b)] [] with
  | none => exact ⟨h, rfl⟩
  | some r =>
    obtain ⟨c, t⟩ := r
    obtain ⟨news, hu⟩ := unif_ur n cs tr [] _ _ c t (UR.refl h) hU he
    exact ⟨hu.ok, hu.len⟩
theorem on_x {cs : List Cell} {tr roots to : List Int} {ms : List Mk} (htc : to = toC cs (allI roots ms)) (hok : HpOk cs tr) (hn : cs.length ≤ 400) (hro : ∀ x ∈ roots, 0 ≤ x ∧ x < cs.length) {i1 i2 : Nat} (h1 : i1 < roots.length) (h2 : i2 < roots.length) (h1' : i1 < (toI to roots).length) (h2' : i2 < (toI to roots).length) :
    UI cs.length (7 * (cs.length * cs.length) + 1) cs [(roots[i1], roots[i2])] [] ∧ UI (cellsM to cs).length (7 * (cs.length * cs.length) + 1) (cellsM to cs) [((toI to roots)[i1], (toI to roots)[i2])] [] ∧
    (unif (7 * (cs.length * cs.length) + 1) cs tr [(roots[i1], roots[i2])] []).isSome = (unif (7 * (cs.length * cs.length) + 1) (cellsM to cs) (trailM to tr) [((toI to roots)[i1], (toI to roots)[i2])] []).isSome ∧
    AlikeP ((unif (7 * (cs.length * cs.length) + 1) cs tr [(roots[i1], roots[i2])] []).getD (cs, tr)).1 roots ((unif (7 * (cs.length * cs.length) + 1) (cellsM to cs) (trailM to tr) [((toI to roots)[i1], (toI to roots)[i2])] []).getD (cellsM to cs, trailM to tr)).1 (toI to roots) to := by
  obtain ⟨hok2, hle2⟩ := col_ok htc hok
  have hs := hok.slots.ok
  have hrn : Rn cs (cellsM to cs) to (Lv cs (allI roots ms)) := by subst htc; exact rn_col hs _
  have htl : to.length = cs.length := by subst htc; exact toC_len
  have hlv : ∀ x ∈ roots, ∃ p : Nat, x = p ∧ Lv cs (allI roots ms) p := fun x hx => by
    have hx2 := hro x hx
    obtain ⟨p, rfl⟩ := Int.eq_ofNat_of_zero_le hx2.1
    exact ⟨p, rfl, Lv.root hs (by omega) (allI_mem.2 (.inl hx))⟩
  obtain ⟨p, hp, hLp⟩ := hlv _ (List.getElem_mem h1)
  obtain ⟨q, hq, hLq⟩ := hlv _ (List.getElem_mem h2)
  have t1 : (toI to roots)[i1] = valI to p := by
    have := hLp.lt
    simp only [toI, List.getElem_map]
    rw [hp, if_pos (by omega)]
  have t2 : (toI to roots)[i2] = valI to q := by
    have := hLq.lt
    simp only [toI, List.getElem_map]
    rw [hq, if_pos (by omega)]
  have r1 := hrn.range2 hLp
  have r2 := hrn.range2 hLq
  have hpl := hLp.lt
  have hql := hLq.lt
  rw [t1, t2, hp, hq]
  have U1 := UI.start hok (a := (p : Int)) (b := (q : Int)) (by omega) (by omega)
  have hsq : 7 * ((cellsM to cs).length * (cellsM to cs).length) + 1 ≤ 7 * (cs.length * cs.length) + 1 := by
    have := Nat.mul_le_mul hle2 hle2
    omega
  have U2 := UI.up (UI.start hok2 (a := valI to p) (b := valI to q) r1 r2) hsq
  have hsim := unif_sim (7 * (cs.length * cs.length) + 1) cs (cellsM to cs) tr (trailM to tr) [((p : Int), (q : Int))] [] hrn U1 U2 (fun x hx => by
    have : x = ((p : Int), (q : Int)) := by simpa using hx
    subst this
    exact ⟨⟨p, rfl, hLp⟩, q, rfl, hLq⟩) (by intro x hx; cases hx)
  have g1 := unif_ok hok U1
  have g2 := unif_ok hok2 U2
  have hal : ∀ x ∈ roots, x = -1 ∨ ∃ p : Nat, x = p ∧ Lv cs (allI roots ms) p := fun x hx => .inr (hlv x hx)
  rw [show [((p : Int), (q : Int))].map (pT to) = [(valI to p, valI to q)] from rfl, show ([] : List (Int × Int)).map (pT to) = [] from rfl] at hsim
  refine ⟨U1, U2, ?_⟩
  rcases hsim with ⟨e1, e2⟩ | ⟨c, t, c2, t2, e1, e2, hr⟩
  · rw [e1, e2]
    exact ⟨rfl, Rn.alike hrn hok.slots hok.rank hok2.slots hok2.rank (by omega) hle2 hal⟩
  · rw [e1] at g1 ⊢
    rw [e2] at g2 ⊢
    simp only [Option.getD_some] at g1 g2 ⊢
    exact ⟨rfl, Rn.alike hr g1.1.slots g1.1.rank g2.1.slots g2.1.rank (by omega) (by omega) hal⟩

set_option maxRecDepth 100000 in
set_option maxHeartbeats 4000000 in

theorem L09_GcOn_c (G : GH) (w0 : World) (hG : Holds G w0) (v : Value) (l : List (Int × List Cell × Int × Int)) (h1 : RSl 4 EOp G v l) (mask : Int) (hm0 : 0 ≤ mask ∧ mask ≤ 4294967295) (y1 y2 : Int) (hy1 : 0 ≤ y1 ∧ y1 ≤ 255) (hy2 : 0 ≤ y2 ∧ y2 ≤ 255)  :
   Calls Try.prog 8 #[v, .int .u32 mask, .agg #[.int .u8 y1, .int .u8 y2]] w0 (Sc w0 (.bool true)) := by
 refine enter Try.func8 rfl (N := 119) rfl (Nat.le_of_ble_eq_true rfl) ?_
 have hS := SS.init hG
 refine cw_seq (cw_region ?_)
 refine ol_step rfl (op_box hS rfl rfl) ?_
 clear hS
 rintro _ w ⟨b5, rfl, hS⟩
 refine ol_pure rfl (op_assign rfl) (ol_nil (pq_then (cw_seq (cw_region ?_))))
 refine ol_step rfl (op_call_sc hS cf_11 rfl (L09_head_c G _ hS.hold)) ?_
 clear hS
 rintro _ w ⟨rfl, hS⟩
 refine ol_pure rfl (op_assign rfl) (ol_nil (pq_then (cw_seq (cw_region (ol_pure rfl (op_move rfl) ?_)))))
 refine ol_step rfl (op_call_rt hS cf_12 rfl (fun _ => .inr rfl) (fun _ _ _ hl ⟨cs, tr, ats, ms, vars, h1, h2⟩ => ⟨cs, tr, ats, ms, vars, h1.mono hl, h2⟩) (R09_Made_c _ _ hS.hold v l h1)) ?_
 clear hS
 rintro v22 w ⟨Gm, hl22, hR22, hS⟩
 obtain ⟨cs, tr, ats, ms, vars, ⟨oc, cc, ot, ct, oA, cA, oM, cM, rfl, hC, hTr, hA, hM⟩, hMd⟩ := hR22
 have hok := hMd.ok
 have hsh := hok.slots.ok
 have hn4 := hMd.few
 have htl := hok.trl
 have hal := hMd.atl
 have hml := hMd.msl
 have hn6 : cs.length ≤ 1000000 := by omega
 have hmr : ∀ m ∈ ms, m.roots.length ≤ 1000 := fun m hm => by have := (hMd.mks m hm).2.1; omega
 have hmk : ∀ m ∈ ms, MkOk cs.length tr.length m := fun m hm => (hMd.mks m hm).1
 have hmin : ∀ m ∈ ms, ∀ x ∈ m.roots, 0 ≤ x ∧ x < cs.length := fun m hm x hx => by
   have h1 := (hMd.mks m hm).2.2.1 x hx
   have h2 := hmk m hm
   unfold MkOk at h2
   omega
 refine ol_step rfl (op_alloc hS el_31 rfl) ?_
 clear hS
 rintro _ w ⟨b8, rfl, hS⟩
 refine ol_step0  (op_storeN (j := 0) hS sz_31 rfl rfl rfl rfl rfl (by simp [Value.oneCell'])) ?_
 clear hS
 rintro _ w hS; (try simp only [List.nil_append, List.cons_append, List.set] at hS)
 refine ol_nil (pq_then (cw_seq (cw_region (ol_load rfl (op_loadN agg_31 rfl (by rfl) (fun w hw k u hk => (hw.bcell (i := 0) rfl).trans hk)) hS (ol_pure rfl (op_move rfl) (ol_pure rfl (op_val (v' := .int .u32 (mask % 2147483648)) (op_and rfl rfl) (congrArg (Value.int .u32) (and31 mask hm0.1 (by omega)))) ?_))))))
 refine ol_step rfl (op_call_fr hS cf_13 rfl (R09_Roots_c _ _ hS.hold oc ot cs.length cc tr.length ct 400 _ ats hA oM ms.length cM (by omega) ((mask % 2147483648)) (by omega))) ?_
 clear hS
 rintro v26 w ⟨F26, Gr, hR26, hF26, hf26, hl26, hS⟩
 obtain ⟨roots, hR, hrl, hrm, hrm2⟩ := hR26
 obtain ⟨oR, cR, rfl, _, _⟩ := hR.elim
 replace hR := hR.mono EInt.mono hf26
 have hrin : ∀ x ∈ roots, x = -1 ∨ (0 ≤ x ∧ x < cs.length) := fun x hx => (hrm x hx).elim (fun h => .inr (hMd.at_ x h)) .inl
 obtain ⟨to, hto⟩ : ∃ to, to = movedI (liveB cs (allI roots ms)) := ⟨_, rfl⟩
 have htc : to = toC cs (allI roots ms) := hto
 have htol : to.length = cs.length := by rw [hto, movedI_len, liveB_len]
 replace hC := hC.mono ECell.mono hl26
 replace hTr := hTr.mono EInt.mono hl26
 replace hA := hA.mono EInt.mono hl26
 replace hM := hM.mono EMk.mono hl26
 (try replace hcur := hcur.trans hl26)
 refine ol_pure rfl (op_assign rfl) (ol_nil (pq_then (cw_seq (cw_seq ?_))))
 have hro : ∀ x ∈ roots, 0 ≤ x ∧ x < cs.length := fun x hx => hMd.at_ x (hrm2 (by omega) x hx)
 refine cw_region (ol_pure rfl (op_move rfl) (ol_pure rfl (op_len sl_26 rfl rfl) (ol_pure rfl (op_eql rfl rfl) (ol_nil (pq_then ?_)))))
 refine cw_cond rfl (fun h29 => ?_) (fun h29 => ?_)
 ·
  try simp only [dqT, dqF, dq1, dq2, dq3, dq4, dq5] at h29
  refine cw_seq (cw_region (ol_pure rfl (op_move rfl) (ol_pure rfl (op_assign rfl) (ol_nil (pq_then (cw_ret (pq_ret ?_)))))))
  refine ret1 rfl rfl ?_
  exact hS.sc_b rfl
 ·
  try simp only [dqT, dqF, dq1, dq2, dq3, dq4, dq5] at h29
  obtain ⟨i1, he1, hi1⟩ := mod_nat (a := y1) (n := roots.length) hy1.1 (by omega)
  obtain ⟨i2, he2, hi2⟩ := mod_nat (a := y2) (n := roots.length) hy2.1 (by omega)
  refine cw_skip (pq_then (cw_seq ?_))
  refine al_start' hS (hS.take 2) (by kernel_rfl) rfl (fun w hS hT => ?_)
  refine al_take (i := 0) rfl (by kernel_rfl) (by kernel_rfl) (by kernel_rfl) rfl (fun _ _ _ h => h) (op_indexArr (i := 0) Try.underlying50 (sz_of (by kernel_rfl)) rfl rfl (by decide) (by decide)) rfl (al_load (i := 1) rfl (by kernel_rfl) (by kernel_rfl) (by kernel_rfl) rfl (fun _ _ _ h => h) (by exact op_load1 one_5 rfl (fun w hw => (hw.bcell (i := 1) (k := 0) rfl).trans rfl)) rfl hT (al_take (i := 2) rfl (by kernel_rfl) (by kernel_rfl) (by kernel_rfl) rfl (fun _ _ _ h => h) (op_conv ⟨_, Try.underlying5⟩ Try.underlying3 rfl (by exact wrap_u8 hy1)) rfl (al_take (i := 3) rfl (by kernel_rfl) (by kernel_rfl) (by kernel_rfl) rfl (fun _ _ _ h => h) (op_move rfl) rfl (al_take (i := 4) rfl (by kernel_rfl) (by kernel_rfl) (by kernel_rfl) rfl (fun _ _ _ h => h) (op_len sl_26 rfl rfl) rfl (al_take (i := 5) rfl (by kernel_rfl) (by kernel_rfl) (by kernel_rfl) rfl (fun _ _ _ h => h) (op_val (v' := .int .i64 (i1 : Nat)) (op_rem rfl rfl (by omega) (by omega)) (by rw [he1])) rfl (al_take (i := 6) rfl (by kernel_rfl) (by kernel_rfl) (by kernel_rfl) rfl (fun _ _ _ h => h) (op_indexArr (i := 1) Try.underlying50 (sz_of (by kernel_rfl)) rfl rfl (by decide) (by decide)) rfl (al_load (i := 7) rfl (by kernel_rfl) (by kernel_rfl) (by kernel_rfl) rfl (fun _ _ _ h => h) (by exact op_load1 one_5 rfl (fun w hw => (hw.bcell (i := 1) (k := 1) rfl).trans rfl)) rfl hT ?_)))))))
  refine al_take (i := 8) rfl (by kernel_rfl) (by kernel_rfl) (by kernel_rfl) rfl (fun _ _ _ h => h) (op_conv ⟨_, Try.underlying5⟩ Try.underlying3 rfl (by exact wrap_u8 hy2)) rfl (al_take (i := 9) rfl (by kernel_rfl) (by kernel_rfl) (by kernel_rfl) rfl (fun _ _ _ h => h) (op_move rfl) rfl (al_take (i := 10) rfl (by kernel_rfl) (by kernel_rfl) (by kernel_rfl) rfl (fun _ _ _ h => h) (op_len sl_26 rfl rfl) rfl (al_take (i := 11) rfl (by kernel_rfl) (by kernel_rfl) (by kernel_rfl) rfl (fun _ _ _ h => h) (op_val (v' := .int .i64 (i2 : Nat)) (op_rem rfl rfl (by omega) (by omega)) (by rw [he2])) rfl (al_take (i := 12) rfl (by kernel_rfl) (by kernel_rfl) (by kernel_rfl) rfl (fun _ _ _ h => h) (op_assign rfl) rfl (al_take (i := 13) rfl (by kernel_rfl) (by kernel_rfl) (by kernel_rfl) rfl (fun _ _ _ h => h) (op_assign rfl) rfl (al_done (by kernel_rfl) (pq_then ?_)))))))
  refine cw_seq (cw_region (ol_pure rfl (op_fieldAddr fld_31_0 rfl) (ol_load rfl (op_loadBS (i := 0) (o := 0) (vs := [.slice oc cs.length cc, .slice ot tr.length ct, .int .i64 400]) agg_28 rfl rfl rfl rfl) hS (ol_pure rfl (op_move rfl) (ol_pure rfl (op_fieldAddr fld_31_2 rfl) (ol_load rfl (op_load1 one_29 rfl (fun w hw => (hw.bcell (i := 0) rfl).trans rfl)) hS ?_))))))
  refine ol_step rfl (op_call_rt hS cf_16 rfl (fun _ => .inl rfl) (ColR.mono) (gc_Collect_c _ _ hS.hold _ cs tr 400 (heap_ hC hTr) hsh hn6 _ roots hR _ ms hM (by omega) (by omega) hmr hmk (by omega) (by omega) (by omega))) ?_
  clear hS
  rintro v49 w ⟨G49, hl49, hR49, hS⟩
  rw [← hto] at hR49
  obtain ⟨oce, cce, ote, cte, oRe, cRe, oMe, cMe, rfl, hCe, hTe, hRe, hMe⟩ := colX hR49 rfl rfl rfl rfl
  replace hC := hC.mono ECell.mono hl49
  replace hTr := hTr.mono EInt.mono hl49
  replace hA := hA.mono EInt.mono hl49
  replace hM := hM.mono EMk.mono hl49
  replace hR := hR.mono EInt.mono hl49
  (try replace hcur := hcur.trans hl49)
  refine ol_pure rfl (op_move rfl) (ol_pure rfl (op_extract (vs := [.agg #[.slice oce (cellsM to cs).length cce, .slice ote (trailM to tr).length cte, .int .i64 400], .slice oRe (toI to roots).length cRe, .slice oMe (ms.map (markM to tr)).length cMe]) rfl rfl) (ol_pure rfl (op_extract (vs := [.agg #[.slice oce (cellsM to cs).length cce, .slice ote (trailM to tr).length cte, .int .i64 400], .slice oRe (toI to roots).length cRe, .slice oMe (ms.map (markM to tr)).length cMe]) rfl rfl) (ol_pure rfl (op_extract (vs := [.agg #[.slice oce (cellsM to cs).length cce, .slice ote (trailM to tr).length cte, .int .i64 400], .slice oRe (toI to roots).length cRe, .slice oMe (ms.map (markM to tr)).length cMe]) rfl rfl) ?_)))
  refine ol_step rfl (op_alloc hS el_28 rfl) ?_
  clear hS
  rintro _ w ⟨b12, rfl, hS⟩
  refine ol_step0  (op_storeN (j := 0) hS sz_28 rfl rfl rfl rfl rfl (by simp [Value.oneCell'])) ?_
  clear hS
  rintro _ w hS; (try simp only [List.nil_append, List.cons_append, List.set] at hS)
  refine ol_pure rfl (op_assign rfl) (ol_pure rfl (op_assign rfl) (ol_nil (pq_then (cw_seq (cw_region (ol_pure rfl (op_fieldAddr fld_31_0 rfl) (ol_load rfl (op_loadBS (i := 1) (o := 0) (vs := [.slice oc cs.length cc, .slice ot tr.length ct, .int .i64 400]) agg_28 rfl rfl rfl rfl) hS ?_)))))))
  refine ol_pure rfl (op_move rfl) (ol_pure rfl (op_fieldAddr fld_31_2 rfl) (ol_load rfl (op_load1 one_29 rfl (fun w hw => (hw.bcell (i := 1) rfl).trans rfl)) hS ?_))
  refine ol_step rfl (op_call_fr hS cf_21 rfl (gc_Moved_c _ _ hS.hold _ cs tr 400 (heap_ hC hTr) hsh hn6 _ roots hR _ ms hM (by omega) (by omega) hmr)) ?_
  clear hS
  rintro v58 w ⟨F58, G58, hR58, hF58, hf58, hl58, hS⟩
  rw [← hto] at hR58
  obtain ⟨oV, coV, rfl, _, _⟩ := hR58.elim
  have hV := hR58.mono EInt.mono hf58
  replace hC := hC.mono ECell.mono hl58
  replace hTr := hTr.mono EInt.mono hl58
  replace hA := hA.mono EInt.mono hl58
  replace hM := hM.mono EMk.mono hl58
  replace hR := hR.mono EInt.mono hl58
  replace hCe := hCe.mono ECell.mono hl58
  replace hTe := hTe.mono EInt.mono hl58
  replace hRe := hRe.mono EInt.mono hl58
  replace hMe := hMe.mono EMk.mono hl58
  (try replace hcur := hcur.trans hl58)
  obtain ⟨hok2, hle2⟩ := col_ok htc hok
  have hrl2 := toI_len to roots
  have hi1' : i1 < (toI to roots).length := by omega
  have hi2' : i2 < (toI to roots).length := by omega
  obtain ⟨u1, u2, o1, o2⟩ := on_x (tr := tr) htc hok (by omega) hro hi1 hi2 hi1' hi2'
  have g1 := unif_ok hok u1
  have g2 := unif_ok hok2 u2
  have hsq := sq_le (n := cs.length) (by omega)
  obtain ⟨N, hN⟩ : ∃ N, N = (7 * (cs.length * cs.length) + 1) := ⟨_, rfl⟩
  rw [← hN] at u1 u2 o1 o2 g1 g2 hsq
  obtain ⟨U, hU⟩ : ∃ U, U = unif N cs tr [(roots[i1], roots[i2])] [] := ⟨_, rfl⟩
  rw [← hU] at o1 o2 g1
  obtain ⟨V, hVV⟩ : ∃ V, V = unif N (cellsM to cs) (trailM to tr) [((toI to roots)[i1], (toI to roots)[i2])] [] := ⟨_, rfl⟩
  rw [← hVV] at o1 o2 g2
  refine ol_pure rfl (op_assign rfl) (ol_nil (pq_then (cw_seq (cw_seq (cw_region (ol_pure rfl (op_move rfl) (ol_pure rfl (op_len sl_26 rfl rfl) ?_)))))))
  refine ol_pure rfl (op_fieldAddr fld_31_0 rfl) (ol_pure rfl (op_fieldAddr2 (o := 0) (q := 0) fld_28_0 rfl (by decide)) (ol_load rfl (op_load1 one_25 rfl (fun w hw => (hw.bcell (i := 1) rfl).trans rfl)) hS (ol_pure rfl (op_len sl_25 rfl rfl) (ol_pure rfl (op_neqF rfl rfl (by omega)) (ol_pure rfl (op_move rfl) (ol_guard_pure rfl rfl rfl (op_move rfl) (ol_guard_pure rfl rfl rfl (op_len sl_26 rfl rfl) ?_)))))))
  refine ol_guard_pure rfl rfl rfl (op_move rfl) (ol_guard_pure rfl rfl rfl (op_len sl_26 rfl rfl) (ol_guard_pure rfl rfl rfl (op_neqF rfl rfl (by omega)) (ol_pure rfl (op_pick_f rfl rfl) (ol_pure rfl (op_move rfl) (ol_guard_load rfl rfl rfl (op_loadN agg_28 rfl (by rfl) (fun w hw k u hk => (hw.bcell (i := 0) rfl).trans hk)) hS ?_)))))
  refine ol_guard_step rfl rfl rfl (op_call_sc hS cf_23 rfl (R08_Right_c _ _ hS.hold _ (cellsM to cs) (trailM to tr) 400 (heap_ hCe hTe) hok2 (by omega) (by omega) (by omega))) ?_
  clear hS
  rintro _ w ⟨rfl, hS⟩
  refine ol_guard_pure rfl rfl rfl (op_not rfl) (ol_pure rfl (op_pick_f rfl rfl) (ol_nil (pq_then (cw_cond_f rfl (cw_skip (pq_then (cw_seq ?_)))))))
  obtain ⟨hoR1, hcR1, _⟩ := hR.int hi1
  obtain ⟨hoR2, hcR2, _⟩ := hR.int hi2
  have hcur := Le.refl G58
  refine al_start' hS (hS.take 2) (by kernel_rfl) rfl (fun w hS hT => ?_)
  refine al_take (i := 0) rfl (by kernel_rfl) (by kernel_rfl) (by kernel_rfl) rfl (fun _ _ _ h => h) (op_fieldAddr fld_31_0 rfl) rfl (al_load (i := 1) rfl (by kernel_rfl) (by kernel_rfl) (by kernel_rfl) rfl (fun _ _ _ h => h) (by exact op_loadBS (i := 1) (o := 0) (vs := [.slice oc cs.length cc, .slice ot tr.length ct, .int .i64 400]) agg_28 rfl rfl rfl rfl) rfl hT (al_take (i := 2) rfl (by kernel_rfl) (by kernel_rfl) (by kernel_rfl) rfl (fun _ _ _ h => h) (op_move rfl) rfl (al_take (i := 3) rfl (by kernel_rfl) (by kernel_rfl) (by kernel_rfl) rfl (fun _ _ _ h => h) (op_move rfl) rfl (al_take (i := 4) rfl (by kernel_rfl) (by kernel_rfl) (by kernel_rfl) rfl (fun _ _ _ h => h) (op_indexN sl_26 rfl rfl hi1 hoR1) rfl (al_load (i := 5) rfl (by kernel_rfl) (by kernel_rfl) (by kernel_rfl) rfl (fun _ _ _ h => h) (by exact op_load1 one_3 rfl (fun w hw => hw.gcell hcR1)) rfl hT (al_take (i := 6) rfl (by kernel_rfl) (by kernel_rfl) (by kernel_rfl) rfl (fun _ _ _ h => h) (op_move rfl) rfl (al_take (i := 7) rfl (by kernel_rfl) (by kernel_rfl) (by kernel_rfl) rfl (fun _ _ _ h => h) (op_move rfl) rfl ?_)))))))
  refine al_take (i := 8) rfl (by kernel_rfl) (by kernel_rfl) (by kernel_rfl) rfl (fun _ _ _ h => h) (op_indexN sl_26 rfl rfl hi2 hoR2) rfl (al_load (i := 9) rfl (by kernel_rfl) (by kernel_rfl) (by kernel_rfl) rfl (fun _ _ _ h => h) (by exact op_load1 one_3 rfl (fun w hw => hw.gcell hcR2)) rfl hT ?_)
  refine al_meet (fuel2 := 0) (ds2 := [16, 15, 14, 13, 12, 11, 10, 9, 8, 7, 6, 5, 4, 3, 2, 1, 0]) (fun e w => ∃ (G89 : GH) (b16 : Nat) (ocg otg : Option Addr) (ccg ctg : Nat), e = [(7, .bool true), (8, .pointer (some ⟨b8, 0, none⟩)), (9, .slice oR roots.length cR), (10, .int .i64 (i1 : Nat)), (11, .int .i64 (i2 : Nat)), (12, .pointer (some ⟨b12, 0, none⟩)), (13, .slice oRe (toI to roots).length cRe), (15, .slice oV to.length coV), (16, .pointer (some ⟨b16, 0, none⟩)), (17, .bool U.isSome)] ∧ Le G58 G89 ∧ RSl 3 ECell G89 (.slice ocg (U.getD (cs, tr)).1.length ccg) (U.getD (cs, tr)).1 ∧ RSl 1 EInt G89 (.slice otg (U.getD (cs, tr)).2.length ctg) (U.getD (cs, tr)).2 ∧ SS G w0 G89 [.blk b16 28 [.slice ocg (U.getD (cs, tr)).1.length ccg, .slice otg (U.getD (cs, tr)).2.length ctg, .int .i64 400], .blk b12 28 [.slice oce (cellsM to cs).length cce, .slice ote (trailM to tr).length cte, .int .i64 400], .blk b8 31 [.slice oc cs.length cc, .slice ot tr.length ct, .int .i64 400, .slice oA ats.length cA, .slice oM ms.length cM], .blk b5 50 [.int .u8 y1, .int .u8 y2]] w) (fun K11 => ?_) ?_
  ·
   refine al_two (i := 10) (j := 14) (by kernel_rfl) (fun a ha => ?_) (fun a ha => ?_)
   ·
    refine wpOp_of_opk (i := 10) rfl ha (op_call_rt hS cf_26 rfl (fun _ => .inr rfl) (UniR.mono) (R08_Unify_c _ _ hS.hold _ cs tr 400 (heap_ hC hTr) roots[i1] roots[i2] N u1 (by omega) (by omega) hsq)) ?_
    clear hS
    rintro v89 w ⟨G89, hl89, hR89, hS⟩
    rw [← hU] at hR89
    obtain ⟨hvg, rfl, ocg, ccg, otg, ctg, rfl, hCg, hTg⟩ := hR89
    refine ⟨no_need (by kernel_rfl), ?_⟩
    refine al_at ?_ (ha.put (blt_lt rfl) _)
    refine al_take (i := 11) rfl (by kernel_rfl) (by kernel_rfl) (by kernel_rfl) rfl (fun _ _ _ h => h) (op_move rfl) rfl (al_take (i := 12) rfl (by kernel_rfl) (by kernel_rfl) (by kernel_rfl) rfl (fun _ _ _ h => h) (op_extract (vs := [.agg #[.slice ocg (U.getD (cs, tr)).1.length ccg, .slice otg (U.getD (cs, tr)).2.length ctg, .int .i64 400], .bool U.isSome]) rfl rfl) rfl (al_take (i := 13) rfl (by kernel_rfl) (by kernel_rfl) (by kernel_rfl) rfl (fun _ _ _ h => h) (op_extract (vs := [.agg #[.slice ocg (U.getD (cs, tr)).1.length ccg, .slice otg (U.getD (cs, tr)).2.length ctg, .int .i64 400], .bool U.isSome]) rfl rfl) rfl ?_))
    refine al_step (i := 14) rfl (by kernel_rfl) rfl (op_alloc hS el_28 rfl) ?_
    clear hS
    rintro _ w ⟨b16, rfl, hS⟩
    have hT := hT.back hS (by first | exact Le.refl _ | assumption) (fun x hx => by try simp only [bkA, bkB, bkC, bkD, bkE] at hx; (rcases hx with rfl | rfl) <;> simp)
    refine ⟨fun _ _ => hT, ?_⟩
    refine al_step0 (i := 15) rfl (by kernel_rfl) (op_storeN (j := 0) hS sz_28 rfl rfl rfl rfl rfl (by simp [Value.oneCell'])) ?_
    clear hS
    rintro _ w hS; (try simp only [List.nil_append, List.cons_append, List.set] at hS)
    refine ⟨no_need (by kernel_rfl), ?_⟩
    refine al_take (i := 16) rfl (by kernel_rfl) (by kernel_rfl) (by kernel_rfl) rfl (fun _ _ _ h => h) (op_assign rfl) rfl ?_
    exact K11 _ _ _ _ (by kernel_rfl) (by exact ⟨G89, b16, ocg, otg, ccg, ctg, rfl, hl89, hCg, hTg, hS⟩) ((Sub.cons rfl (Sub.cons rfl (Sub.cons rfl (Sub.cons rfl (Sub.cons rfl (Sub.cons rfl (Sub.cons rfl (Sub.cons rfl (Sub.cons rfl (Sub.cons rfl Sub.nil)))))))))))
   ·
    refine wpOp_of_opk (i := 14) rfl ha (op_alloc hS el_28 rfl) ?_
    clear hS
    rintro _ w ⟨b16, rfl, hS⟩
    have hT := hT.back hS (by first | exact Le.refl _ | assumption) (fun x hx => by try simp only [bkA, bkB, bkC, bkD, bkE] at hx; (rcases hx with rfl | rfl) <;> simp)
    refine ⟨fun _ _ => hT, ?_⟩
    refine al_at ?_ (ha.put (blt_lt rfl) _)
    refine al_step (i := 10) rfl (by kernel_rfl) rfl (op_call_rt hS cf_26 rfl (fun _ => .inr rfl) (UniR.mono) (R08_Unify_c _ _ hS.hold _ cs tr 400 (heap_ hC hTr) roots[i1] roots[i2] N u1 (by omega) (by omega) hsq)) ?_
    clear hS
    rintro v89 w ⟨G89, hl89, hR89, hS⟩
    rw [← hU] at hR89
    obtain ⟨hvg, rfl, ocg, ccg, otg, ctg, rfl, hCg, hTg⟩ := hR89
    refine ⟨no_need (by kernel_rfl), ?_⟩
    refine al_take (i := 11) rfl (by kernel_rfl) (by kernel_rfl) (by kernel_rfl) rfl (fun _ _ _ h => h) (op_move rfl) rfl (al_take (i := 12) rfl (by kernel_rfl) (by kernel_rfl) (by kernel_rfl) rfl (fun _ _ _ h => h) (op_extract (vs := [.agg #[.slice ocg (U.getD (cs, tr)).1.length ccg, .slice otg (U.getD (cs, tr)).2.length ctg, .int .i64 400], .bool U.isSome]) rfl rfl) rfl (al_take (i := 13) rfl (by kernel_rfl) (by kernel_rfl) (by kernel_rfl) rfl (fun _ _ _ h => h) (op_extract (vs := [.agg #[.slice ocg (U.getD (cs, tr)).1.length ccg, .slice otg (U.getD (cs, tr)).2.length ctg, .int .i64 400], .bool U.isSome]) rfl rfl) rfl ?_))
    refine al_step0 (i := 15) rfl (by kernel_rfl) (op_storeN (j := 0) hS sz_28 rfl rfl rfl rfl rfl (by simp [Value.oneCell'])) ?_
    clear hS
    rintro _ w hS; (try simp only [List.nil_append, List.cons_append, List.set] at hS)
    refine ⟨no_need (by kernel_rfl), ?_⟩
    refine al_take (i := 16) rfl (by kernel_rfl) (by kernel_rfl) (by kernel_rfl) rfl (fun _ _ _ h => h) (op_assign rfl) rfl ?_
    exact K11 _ _ _ _ (by kernel_rfl) (by exact ⟨G89, b16, ocg, otg, ccg, ctg, rfl, hl89, hCg, hTg, hS⟩) ((Sub.cons rfl (Sub.cons rfl (Sub.cons rfl (Sub.cons rfl (Sub.cons rfl (Sub.cons rfl (Sub.cons rfl (Sub.cons rfl (Sub.cons rfl (Sub.cons rfl Sub.nil)))))))))))
  ·
   have hTo := hT
   clear hS hT
   rintro e w ⟨G89, b16, ocg, otg, ccg, ctg, rfl, hl89, hCg, hTg, hS⟩
   have hT := hTo.back hS (by first | exact Le.refl _ | assumption) (fun x hx => by try simp only [bkA, bkB, bkC, bkD, bkE] at hx; (rcases hx with rfl | rfl) <;> simp)
   clear hTo
   replace hC := hC.mono ECell.mono hl89
   replace hTr := hTr.mono EInt.mono hl89
   replace hA := hA.mono EInt.mono hl89
   replace hM := hM.mono EMk.mono hl89
   replace hR := hR.mono EInt.mono hl89
   replace hCe := hCe.mono ECell.mono hl89
   replace hTe := hTe.mono EInt.mono hl89
   replace hRe := hRe.mono EInt.mono hl89
   replace hMe := hMe.mono EMk.mono hl89
   replace hV := hV.mono EInt.mono hl89
   (try replace hcur := hcur.trans hl89)
   refine al_done (by kernel_rfl) (pq_then (cw_seq ?_))
   clear hcur
   obtain ⟨hoQ1, hcQ1, _⟩ := hRe.int hi1'
   obtain ⟨hoQ2, hcQ2, _⟩ := hRe.int hi2'
   have hcur := Le.refl G89
   refine al_start' hS (hS.take 2) (by kernel_rfl) rfl (fun w hS hT => ?_)
   refine al_load (i := 0) rfl (by kernel_rfl) (by kernel_rfl) (by kernel_rfl) rfl (fun _ _ _ h => h) (by exact op_loadN agg_28 rfl (by rfl) (fun w hw k u hk => (hw.bcell (i := 1) rfl).trans hk)) rfl hT (al_take (i := 1) rfl (by kernel_rfl) (by kernel_rfl) (by kernel_rfl) rfl (fun _ _ _ h => h) (op_move rfl) rfl (al_take (i := 2) rfl (by kernel_rfl) (by kernel_rfl) (by kernel_rfl) rfl (fun _ _ _ h => h) (op_move rfl) rfl (al_take (i := 3) rfl (by kernel_rfl) (by kernel_rfl) (by kernel_rfl) rfl (fun _ _ _ h => h) (op_indexN sl_26 rfl rfl hi1' hoQ1) rfl (al_load (i := 4) rfl (by kernel_rfl) (by kernel_rfl) (by kernel_rfl) rfl (fun _ _ _ h => h) (by exact op_load1 one_3 rfl (fun w hw => hw.gcell hcQ1)) rfl hT (al_take (i := 5) rfl (by kernel_rfl) (by kernel_rfl) (by kernel_rfl) rfl (fun _ _ _ h => h) (op_move rfl) rfl (al_take (i := 6) rfl (by kernel_rfl) (by kernel_rfl) (by kernel_rfl) rfl (fun _ _ _ h => h) (op_move rfl) rfl (al_take (i := 7) rfl (by kernel_rfl) (by kernel_rfl) (by kernel_rfl) rfl (fun _ _ _ h => h) (op_indexN sl_26 rfl rfl hi2' hoQ2) rfl ?_)))))))
   refine al_load (i := 8) rfl (by kernel_rfl) (by kernel_rfl) (by kernel_rfl) rfl (fun _ _ _ h => h) (by exact op_load1 one_3 rfl (fun w hw => hw.gcell hcQ2)) rfl hT ?_
   refine al_meet (fuel2 := 0) (ds2 := [15, 14, 13, 12, 11, 10, 9, 8, 7, 6, 5, 4, 3, 2, 1, 0]) (fun e w => ∃ (G102 : GH) (b18 : Nat) (ock otk : Option Addr) (cck ctk : Nat), e = [(7, .bool true), (8, .pointer (some ⟨b8, 0, none⟩)), (9, .slice oR roots.length cR), (10, .int .i64 (i1 : Nat)), (11, .int .i64 (i2 : Nat)), (12, .pointer (some ⟨b12, 0, none⟩)), (13, .slice oRe (toI to roots).length cRe), (15, .slice oV to.length coV), (16, .pointer (some ⟨b16, 0, none⟩)), (17, .bool U.isSome), (18, .pointer (some ⟨b18, 0, none⟩)), (19, .bool V.isSome)] ∧ Le G89 G102 ∧ RSl 3 ECell G102 (.slice ock (V.getD (cellsM to cs, trailM to tr)).1.length cck) (V.getD (cellsM to cs, trailM to tr)).1 ∧ RSl 1 EInt G102 (.slice otk (V.getD (cellsM to cs, trailM to tr)).2.length ctk) (V.getD (cellsM to cs, trailM to tr)).2 ∧ SS G w0 G102 [.blk b18 28 [.slice ock (V.getD (cellsM to cs, trailM to tr)).1.length cck, .slice otk (V.getD (cellsM to cs, trailM to tr)).2.length ctk, .int .i64 400], .blk b16 28 [.slice ocg (U.getD (cs, tr)).1.length ccg, .slice otg (U.getD (cs, tr)).2.length ctg, .int .i64 400], .blk b12 28 [.slice oce (cellsM to cs).length cce, .slice ote (trailM to tr).length cte, .int .i64 400], .blk b8 31 [.slice oc cs.length cc, .slice ot tr.length ct, .int .i64 400, .slice oA ats.length cA, .slice oM ms.length cM], .blk b5 50 [.int .u8 y1, .int .u8 y2]] w) (fun K12 => ?_) ?_
   ·
    refine al_two (i := 9) (j := 13) (by kernel_rfl) (fun a ha => ?_) (fun a ha => ?_)
    ·
     refine wpOp_of_opk (i := 9) rfl ha (op_call_rt hS cf_26 rfl (fun _ => .inr rfl) (UniR.mono) (R08_Unify_c _ _ hS.hold _ (cellsM to cs) (trailM to tr) 400 (heap_ hCe hTe) (toI to roots)[i1] (toI to roots)[i2] N u2 (by omega) (by have := hok2.trl; omega) hsq)) ?_
     clear hS
     rintro v102 w ⟨G102, hl102, hR102, hS⟩
     rw [← hVV] at hR102
     obtain ⟨hvk, rfl, ock, cck, otk, ctk, rfl, hCk, hTk⟩ := hR102
     refine ⟨no_need (by kernel_rfl), ?_⟩
     refine al_at ?_ (ha.put (blt_lt rfl) _)
     refine al_take (i := 10) rfl (by kernel_rfl) (by kernel_rfl) (by kernel_rfl) rfl (fun _ _ _ h => h) (op_move rfl) rfl (al_take (i := 11) rfl (by kernel_rfl) (by kernel_rfl) (by kernel_rfl) rfl (fun _ _ _ h => h) (op_extract (vs := [.agg #[.slice ock (V.getD (cellsM to cs, trailM to tr)).1.length cck, .slice otk (V.getD (cellsM to cs, trailM to tr)).2.length ctk, .int .i64 400], .bool V.isSome]) rfl rfl) rfl (al_take (i := 12) rfl (by kernel_rfl) (by kernel_rfl) (by kernel_rfl) rfl (fun _ _ _ h => h) (op_extract (vs := [.agg #[.slice ock (V.getD (cellsM to cs, trailM to tr)).1.length cck, .slice otk (V.getD (cellsM to cs, trailM to tr)).2.length ctk, .int .i64 400], .bool V.isSome]) rfl rfl) rfl ?_))
     refine al_step (i := 13) rfl (by kernel_rfl) rfl (op_alloc hS el_28 rfl) ?_
     clear hS
     rintro _ w ⟨b18, rfl, hS⟩
     have hT := hT.back hS (by first | exact Le.refl _ | assumption) (fun x hx => by try simp only [bkA, bkB, bkC, bkD, bkE] at hx; (rcases hx with rfl | rfl) <;> simp)
     refine ⟨fun _ _ => hT, ?_⟩
     refine al_step0 (i := 14) rfl (by kernel_rfl) (op_storeN (j := 0) hS sz_28 rfl rfl rfl rfl rfl (by simp [Value.oneCell'])) ?_
     clear hS
     rintro _ w hS; (try simp only [List.nil_append, List.cons_append, List.set] at hS)
     refine ⟨no_need (by kernel_rfl), ?_⟩
     refine al_take (i := 15) rfl (by kernel_rfl) (by kernel_rfl) (by kernel_rfl) rfl (fun _ _ _ h => h) (op_assign rfl) rfl ?_
     exact K12 _ _ _ _ (by kernel_rfl) (by exact ⟨G102, b18, ock, otk, cck, ctk, rfl, hl102, hCk, hTk, hS⟩) ((Sub.cons rfl (Sub.cons rfl (Sub.cons rfl (Sub.cons rfl (Sub.cons rfl (Sub.cons rfl (Sub.cons rfl (Sub.cons rfl (Sub.cons rfl (Sub.cons rfl (Sub.cons rfl (Sub.cons rfl Sub.nil)))))))))))))
    ·
     refine wpOp_of_opk (i := 13) rfl ha (op_alloc hS el_28 rfl) ?_
     clear hS
     rintro _ w ⟨b18, rfl, hS⟩
     have hT := hT.back hS (by first | exact Le.refl _ | assumption) (fun x hx => by try simp only [bkA, bkB, bkC, bkD, bkE] at hx; (rcases hx with rfl | rfl) <;> simp)
     refine ⟨fun _ _ => hT, ?_⟩
     refine al_at ?_ (ha.put (blt_lt rfl) _)
     refine al_step (i := 9) rfl (by kernel_rfl) rfl (op_call_rt hS cf_26 rfl (fun _ => .inr rfl) (UniR.mono) (R08_Unify_c _ _ hS.hold _ (cellsM to cs) (trailM to tr) 400 (heap_ hCe hTe) (toI to roots)[i1] (toI to roots)[i2] N u2 (by omega) (by have := hok2.trl; omega) hsq)) ?_
     clear hS
     rintro v102 w ⟨G102, hl102, hR102, hS⟩
     rw [← hVV] at hR102
     obtain ⟨hvk, rfl, ock, cck, otk, ctk, rfl, hCk, hTk⟩ := hR102
     refine ⟨no_need (by kernel_rfl), ?_⟩
     refine al_take (i := 10) rfl (by kernel_rfl) (by kernel_rfl) (by kernel_rfl) rfl (fun _ _ _ h => h) (op_move rfl) rfl (al_take (i := 11) rfl (by kernel_rfl) (by kernel_rfl) (by kernel_rfl) rfl (fun _ _ _ h => h) (op_extract (vs := [.agg #[.slice ock (V.getD (cellsM to cs, trailM to tr)).1.length cck, .slice otk (V.getD (cellsM to cs, trailM to tr)).2.length ctk, .int .i64 400], .bool V.isSome]) rfl rfl) rfl (al_take (i := 12) rfl (by kernel_rfl) (by kernel_rfl) (by kernel_rfl) rfl (fun _ _ _ h => h) (op_extract (vs := [.agg #[.slice ock (V.getD (cellsM to cs, trailM to tr)).1.length cck, .slice otk (V.getD (cellsM to cs, trailM to tr)).2.length ctk, .int .i64 400], .bool V.isSome]) rfl rfl) rfl ?_))
     refine al_step0 (i := 14) rfl (by kernel_rfl) (op_storeN (j := 0) hS sz_28 rfl rfl rfl rfl rfl (by simp [Value.oneCell'])) ?_
     clear hS
     rintro _ w hS; (try simp only [List.nil_append, List.cons_append, List.set] at hS)
     refine ⟨no_need (by kernel_rfl), ?_⟩
     refine al_take (i := 15) rfl (by kernel_rfl) (by kernel_rfl) (by kernel_rfl) rfl (fun _ _ _ h => h) (op_assign rfl) rfl ?_
     exact K12 _ _ _ _ (by kernel_rfl) (by exact ⟨G102, b18, ock, otk, cck, ctk, rfl, hl102, hCk, hTk, hS⟩) ((Sub.cons rfl (Sub.cons rfl (Sub.cons rfl (Sub.cons rfl (Sub.cons rfl (Sub.cons rfl (Sub.cons rfl (Sub.cons rfl (Sub.cons rfl (Sub.cons rfl (Sub.cons rfl (Sub.cons rfl Sub.nil)))))))))))))
   ·
    have hTo := hT
    clear hS hT
    rintro e w ⟨G102, b18, ock, otk, cck, ctk, rfl, hl102, hCk, hTk, hS⟩
    have hT := hTo.back hS (by first | exact Le.refl _ | assumption) (fun x hx => by try simp only [bkA, bkB, bkC, bkD, bkE] at hx; (rcases hx with rfl | rfl) <;> simp)
    clear hTo
    replace hC := hC.mono ECell.mono hl102
    replace hTr := hTr.mono EInt.mono hl102
    replace hA := hA.mono EInt.mono hl102
    replace hM := hM.mono EMk.mono hl102
    replace hR := hR.mono EInt.mono hl102
    replace hCe := hCe.mono ECell.mono hl102
    replace hTe := hTe.mono EInt.mono hl102
    replace hRe := hRe.mono EInt.mono hl102
    replace hMe := hMe.mono EMk.mono hl102
    replace hV := hV.mono EInt.mono hl102
    replace hCg := hCg.mono ECell.mono hl102
    replace hTg := hTg.mono EInt.mono hl102
    (try replace hcur := hcur.trans hl102)
    refine al_done (by kernel_rfl) (pq_then (cw_seq (cw_region (ol_pure rfl (op_move rfl) (ol_pure rfl (op_move rfl) (ol_pure rfl (op_val (v' := .bool true) (op_eqlB Try.underlying4 rfl rfl) (by rw [o1]; simp)) (ol_pure rfl (op_move rfl) ?_)))))))
    refine ol_guard_load rfl rfl rfl (op_loadN agg_28 rfl (by rfl) (fun w hw k u hk => (hw.bcell (i := 1) rfl).trans hk)) hS (ol_guard_pure rfl rfl rfl (op_move rfl) (ol_guard_load rfl rfl rfl (op_loadN agg_28 rfl (by rfl) (fun w hw k u hk => (hw.bcell (i := 0) rfl).trans hk)) hS (ol_guard_pure rfl rfl rfl (op_move rfl) (ol_guard_pure rfl rfl rfl (op_move rfl) ?_))))
    refine ol_guard_step rfl rfl rfl (op_call_sc hS cf_24 rfl (R09_Alike_c _ _ hS.hold _ _ (U.getD (cs, tr)).1 (V.getD (cellsM to cs, trailM to tr)).1 (U.getD (cs, tr)).2 (V.getD (cellsM to cs, trailM to tr)).2 400 400 (heap_ hCg hTg) (heap_ hCk hTk) g1.1.slots.ok g1.1.rank g2.1.slots.ok g2.1.rank (by omega) (by omega) _ _ _ roots (toI to roots) to hR hRe hV o2)) ?_
    clear hS
    rintro _ w ⟨rfl, hS⟩
    refine ol_pure rfl (op_pick_t rfl rfl) (ol_pure rfl (op_move rfl) (ol_guard_pure rfl rfl rfl (op_move rfl) (ol_pure rfl (op_pick_t rfl rfl) (ol_pure rfl (op_assign rfl) (ol_nil (pq_then (cw_ret ?_)))))))
    refine ret1 rfl rfl ?_
    exact hS.sc_b rfl
end Go.Proofs.Ytnmkffkalnkbbaa.K
