/-
  The document's answer of layer 17: Least, Model, Unfounded.
  No condition but the premises that each theorem names.
-/
import Derived.Test.YtmkgechdfimfnaaWfm
namespace Go.Proofs.Ytmkgechdfimfnaa.K
open Go Go.RowKit
set_option linter.unusedVariables false
set_option linter.unusedSimpArgs false

open Pl

set_option maxRecDepth 100000 in
set_option maxHeartbeats 400000 in

theorem R17_Least_c (G : GH) (w0 : World) (hG : Holds G w0) {α : Type} {E : ER α} (hE : EMono E) (va vr : Value) (atoms : List α) (rs : List Rule) (h1 : RSl 1 E G va atoms) (h2 : RSl 3 ERule G vr rs) (hP : PrOk atoms.length rs) (vso : Value) (so : List Bool) (h3 : RSl 1 EBool G vso so) :
   Calls Try.prog 54 #[.agg #[va, vr], vso] w0 (Rt noG w0 (fun G v => RSl 1 EBool G v (gam atoms.length rs so))) := by
 obtain ⟨oA, cA, rfl, hlA, hmA⟩ := h1.elim
 obtain ⟨oR, cR, rfl, hlR, hmR⟩ := h2.elim
 have hPn := hP.n_le
 have hPm := hP.m_le
 obtain ⟨oS, cS, rfl, hlS, hmS⟩ := h3.elim
 refine enter Try.func54 rfl (N := 50) rfl (Nat.le_of_ble_eq_true rfl) ?_
 have hS := SS.init hG
 refine cw_seq ?_
 refine cw_region ?_
 refine ol_step rfl (op_box hS rfl rfl) ?_
 clear hS
 rintro _ w ⟨b2, rfl, hS⟩
 refine ol_pure rfl (op_assign rfl) ?_
 refine ol_nil ?_
 refine pq_then ?_
 refine cw_seq ?_
 refine cw_region ?_
 refine ol_pure rfl (op_fieldAddr fld_26_0 rfl) ?_
 refine ol_load rfl (op_load1 one_24 rfl (fun w hw => (hw.bcell (i := 0) rfl).trans rfl)) hS ?_
 refine ol_pure rfl (op_len sl_24 rfl rfl) ?_
 refine ol_step rfl (op_makeSlice (n := atoms.length) hS sl_49 el_4 rfl rfl rfl (by omega) (by unfold maxLen; omega)) ?_
 clear hS
 rintro _ w ⟨out, rfl, hS⟩
 refine ol_pure rfl (op_assign rfl) ?_
 refine ol_nil ?_
 refine pq_then ?_
 refine cw_seq ?_
 refine cw_seq ?_
 refine cw_region ?_
 refine ol_pure rfl (op_assign rfl) ?_
 refine ol_nil ?_
 refine pq_then ?_
 refine cw_block ?_
 refine cw_loop (fun e w n => ∃ more l, e = [(1, .slice oS so.length cS), (2, .pointer (some ⟨b2, 0, none⟩)), (5, .slice out atoms.length atoms.length), (6, .bool more)] ∧ n = measB atoms.length l more ∧ l.length = atoms.length ∧ (∀ a : Nat, a < atoms.length → atB l a = true → Der (rs.filter (fun r => !anyB so r.neg)) a) ∧ (more = false → IsLeast atoms.length (rs.filter (fun r => !anyB so r.neg)) l) ∧ SS G w0 G [.row out atoms.length atoms.length 4 1 (l.map Value.bool), .blk b2 26 [.slice oA atoms.length cA, .slice oR rs.length cR]] w) _ _ (by exact ⟨true, List.replicate atoms.length false, rfl, rfl, by simp, (fun a ha hat => by simp [atB_nat, ha] at hat), (fun hh => by cases hh), by simpa using hS⟩) ((Sub.cons rfl (Sub.cons rfl (Sub.cons rfl (Sub.cons rfl Sub.nil))))) ?_
 clear hS
 rintro e w n ⟨more, l, rfl, rfl, hll, hsd, hdn, hS⟩
 refine cw_seq ?_
 refine cw_seq ?_
 refine cw_region ?_
 refine ol_pure rfl (op_move rfl) ?_
 refine ol_nil ?_
 refine pq_then ?_
 refine cw_cond rfl (fun h13 => ?_) (fun h13 => ?_)
 ·
  skip
  try simp only [decide_eq_true_eq, decide_eq_false_iff_not, Bool.not_eq_true', Bool.not_eq_false', Bool.not_eq_eq_eq_not, Bool.not_true, Bool.not_false] at h13
  subst h13
  refine cw_skip ?_
  refine pq_then ?_
  refine cw_block ?_
  refine cw_seq ?_
  refine cw_region ?_
  refine ol_pure rfl (op_assign rfl) ?_
  refine ol_nil ?_
  refine pq_then ?_
  refine cw_seq ?_
  refine cw_region ?_
  refine ol_pure rfl (op_assign rfl) ?_
  refine ol_nil ?_
  refine pq_then ?_
  refine cw_block ?_
  refine cw_loop (fun e w n => ∃ more2 k l2, e = [(1, .slice oS so.length cS), (2, .pointer (some ⟨b2, 0, none⟩)), (5, .slice out atoms.length atoms.length), (6, .bool more2), (7, .int .i64 (k : Nat))] ∧ k ≤ rs.length ∧ n = rs.length - k ∧ Grow atoms.length rs (fun r => !anyB so r.neg) l l2 k more2 ∧ SS G w0 G [.row out atoms.length atoms.length 4 1 (l2.map Value.bool), .blk b2 26 [.slice oA atoms.length cA, .slice oR rs.length cR]] w) _ _ (by exact ⟨false, 0, l, rfl, Nat.zero_le _, rfl, Grow.start hll hsd, hS⟩) ((Sub.cons rfl (Sub.cons rfl (Sub.cons rfl (Sub.cons rfl (Sub.cons rfl Sub.nil)))))) ?_
  clear hS
  rintro e w n ⟨more2, k, l2, rfl, hk, rfl, hW, hS⟩
  refine cw_seq ?_
  refine cw_seq ?_
  refine cw_region ?_
  refine ol_pure rfl (op_move rfl) ?_
  refine ol_pure rfl (op_fieldAddr fld_26_1 rfl) ?_
  refine ol_load rfl (op_load1 one_22 rfl (fun w hw => (hw.bcell (i := 1) rfl).trans rfl)) hS ?_
  refine ol_pure rfl (op_len sl_22 rfl rfl) ?_
  refine ol_pure rfl (op_lss rfl rfl) ?_
  refine ol_nil ?_
  refine pq_then ?_
  refine cw_cond rfl (fun h18 => ?_) (fun h18 => ?_)
  ·
   skip
   try simp only [decide_eq_true_eq, decide_eq_false_iff_not, Bool.not_eq_true', Bool.not_eq_false', Bool.not_eq_eq_eq_not, Bool.not_true, Bool.not_false] at h18
   have hlt : k < rs.length := by omega
   have hrk := (hP.rule _ (List.getElem_mem hlt)).1
   obtain ⟨hoa, cs, hcl, ⟨p, q, rfl, hp, hq, hhd⟩, hcells⟩ := h2.el hlt
   obtain ⟨op, cp, hpe, hlp, hmp⟩ := hp.elim
   obtain ⟨oq, cq, hqe, hlq, hmq⟩ := hq.elim
   subst hpe
   subst hqe
   obtain ⟨hd, hhe⟩ := Int.eq_ofNat_of_zero_le hrk.1.1
   have hdl : hd < atoms.length := by have := hrk.1.2; omega
   have hp0 : ∀ x ∈ rs[k].pos, 0 ≤ x := fun x hx => (hrk.2.1 x hx).1
   have hq0 : ∀ x ∈ rs[k].neg, 0 ≤ x := fun x hx => (hrk.2.2 x hx).1
   simp only [hhe] at hcells
   refine cw_skip ?_
   refine pq_then ?_
   refine cw_seq ?_
   refine cw_block ?_
   refine cw_seq ?_
   refine cw_region ?_
   refine ol_pure rfl (op_fieldAddr fld_26_1 rfl) ?_
   refine ol_load rfl (op_load1 one_22 rfl (fun w hw => (hw.bcell (i := 1) rfl).trans rfl)) hS ?_
   refine ol_pure rfl (op_move rfl) ?_
   refine ol_pure rfl (op_indexN sl_22 rfl rfl (by omega) (by assumption)) ?_
   refine ol_load rfl (op_loadN agg_30 rfl (by rfl) (fun w hw k u hk => hw.gcell (hcells k u hk))) hS ?_
   refine ol_step rfl (op_alloc hS el_30 rfl) ?_
   clear hS
   rintro _ w ⟨b8, rfl, hS⟩
   refine ol_step0  (op_storeN (j := 0) hS sz_30 rfl rfl rfl rfl rfl (by simp [Value.oneCell'])) ?_
   clear hS
   rintro _ w hS; (try simp only [List.nil_append, List.cons_append, List.set] at hS)
   refine ol_nil ?_
   refine pq_then ?_
   refine cw_seq ?_
   have hl2 := hW.len
   have hrc : (l2.map Value.bool)[hd * 1]? = some (.bool (atB l2 (hd : Int))) := by
     have hx : hd < l2.length := by omega
     rw [atB_nat]
     simp [hx]
   have hoo := (hS.news (j := 1) rfl _ _ hrc).1
   refine cw_region ?_
   refine ol_pure rfl (op_move rfl) ?_
   refine ol_pure rfl (op_fieldAddr fld_30_0 rfl) ?_
   refine ol_load rfl (op_load1 one_3 rfl (fun w hw => (hw.bcell (i := 0) rfl).trans rfl)) hS ?_
   refine ol_pure rfl (op_indexN sl_49 rfl rfl (by omega) (by assumption)) ?_
   refine ol_load rfl (op_load1 one_4 rfl (fun w hw => hw.rcell (i := 1) rfl hrc)) hS ?_
   refine ol_pure rfl (op_not rfl) ?_
   refine ol_pure rfl (op_move rfl) ?_
   refine ol_split (fun h32 => ?_) (fun h32 => ?_)
   ·
    skip
    try simp only [decide_eq_true_eq, decide_eq_false_iff_not, Bool.not_eq_true', Bool.not_eq_false', Bool.not_eq_eq_eq_not, Bool.not_true, Bool.not_false] at h32
    refine ol_guard_pure rfl rfl rfl (op_move rfl) ?_
    refine ol_guard_pure rfl rfl rfl (op_fieldAddr fld_30_2 rfl) ?_
    refine ol_guard_load rfl rfl rfl (op_load1 one_28 rfl (fun w hw => (hw.bcell (i := 0) rfl).trans rfl)) hS ?_
    refine ol_guard_step rfl rfl rfl (op_call_sc hS cf_69 rfl (R17_Any_c G _ hS.hold _ _ so rs[k].neg h3 hq hq0)) ?_
    clear hS
    rintro _ w ⟨rfl, hS⟩
    refine ol_guard_pure rfl rfl rfl (op_not rfl) ?_
    refine ol_pure rfl (op_pick_t rfl rfl) ?_
    refine ol_pure rfl (op_move rfl) ?_
    refine ol_split (fun h39 => ?_) (fun h39 => ?_)
    ·
     skip
     try simp only [decide_eq_true_eq, decide_eq_false_iff_not, Bool.not_eq_true', Bool.not_eq_false', Bool.not_eq_eq_eq_not, Bool.not_true, Bool.not_false] at h39
     refine ol_guard_pure rfl rfl rfl (op_move rfl) ?_
     refine ol_guard_pure rfl rfl rfl (op_fieldAddr fld_30_1 rfl) ?_
     refine ol_guard_load rfl rfl rfl (op_load1 one_28 rfl (fun w hw => (hw.bcell (i := 0) rfl).trans rfl)) hS ?_
     have hlend := SS.lend [_] hS (by decide) EBool.mono (Rows.boolsG G l2) hl2.symm
     refine ol_guard_step rfl rfl rfl (op_call_sc hS cf_71 rfl (R17_All_c (fullG _) _ (Holds.full _) _ _ l2 rs[k].pos hlend (hp.mono EInt.mono hS.hold.le_full) hp0)) ?_
     clear hS
     rintro _ w ⟨rfl, hS⟩
     refine ol_pure rfl (op_pick_t rfl rfl) ?_
     refine ol_nil ?_
     refine pq_then ?_
     refine cw_cond rfl (fun h44 => ?_) (fun h44 => ?_)
     ·
      skip
      try simp only [decide_eq_true_eq, decide_eq_false_iff_not, Bool.not_eq_true', Bool.not_eq_false', Bool.not_eq_eq_eq_not, Bool.not_true, Bool.not_false] at h44
      refine cw_seq ?_
      refine cw_region ?_
      refine ol_pure rfl (op_move rfl) ?_
      refine ol_pure rfl (op_fieldAddr fld_30_0 rfl) ?_
      refine ol_load rfl (op_load1 one_3 rfl (fun w hw => (hw.bcell (i := 0) rfl).trans rfl)) hS ?_
      refine ol_pure rfl (op_indexN sl_49 rfl rfl (by omega) (by assumption)) ?_
      refine ol_step0  (op_storeR (j := 1) (k := hd * 1) hS sz_4 rfl rfl rfl rfl (by simp; omega)) ?_
      clear hS
      rintro _ w hS; (try simp only [List.nil_append, List.cons_append, List.set] at hS)
      refine ol_nil ?_
      refine pq_then ?_
      refine cw_region ?_
      refine ol_pure rfl (op_assign rfl) ?_
      refine ol_nil ?_
      refine pq_in_normal ?_
      refine pq_then ?_
      refine cw_region ?_
      refine ol_pure rfl (op_move rfl) ?_
      refine ol_pure rfl (op_add rfl rfl (by omega) (by omega)) ?_
      refine ol_pure rfl (op_assign rfl) ?_
      refine ol_nil ?_
      refine pq_loop _ _ (by exact (by
          replace hS := SS.drop [] hS
          rw [Nat.mul_one, ← List.map_set] at hS
          have h5 := hW.set (fun r hr => (hP.rule r hr).1) hlt (by simpa using h39) (by rw [hhe]; simpa using h32) h44
          rw [hhe, Int.toNat_natCast] at h5
          exact ⟨true, k + 1, _, rfl, by omega, rfl, h5, hS⟩)) ((Sub.cons rfl (Sub.cons rfl (Sub.cons rfl (Sub.cons rfl (Sub.cons rfl Sub.nil)))))) (by omega)
     ·
      skip
      try simp only [decide_eq_true_eq, decide_eq_false_iff_not, Bool.not_eq_true', Bool.not_eq_false', Bool.not_eq_eq_eq_not, Bool.not_true, Bool.not_false] at h44
      refine cw_skip ?_
      refine pq_in_normal ?_
      refine pq_then ?_
      refine cw_region ?_
      refine ol_pure rfl (op_move rfl) ?_
      refine ol_pure rfl (op_add rfl rfl (by omega) (by omega)) ?_
      refine ol_pure rfl (op_assign rfl) ?_
      refine ol_nil ?_
      refine pq_loop _ _ (by exact (by replace hS := SS.drop [] hS; exact ⟨more2, k + 1, l2, rfl, by omega, rfl, hW.skip hlt (fun _ hh => by rw [hh] at h44; cases h44), hS⟩)) ((Sub.cons rfl (Sub.cons rfl (Sub.cons rfl (Sub.cons rfl (Sub.cons rfl Sub.nil)))))) (by omega)
    ·
     skip
     try simp only [decide_eq_true_eq, decide_eq_false_iff_not, Bool.not_eq_true', Bool.not_eq_false', Bool.not_eq_eq_eq_not, Bool.not_true, Bool.not_false] at h39
     refine ol_guard_no rfl rfl rfl rfl ?_
     refine ol_guard_no rfl rfl rfl rfl ?_
     refine ol_guard_no rfl rfl rfl rfl ?_
     refine ol_guard_no rfl rfl rfl rfl ?_
     refine ol_pure rfl (op_pick_f rfl rfl) ?_
     refine ol_nil ?_
     refine pq_then ?_
     refine cw_cond_f rfl ?_
     refine cw_skip ?_
     refine pq_in_normal ?_
     refine pq_then ?_
     refine cw_region ?_
     refine ol_pure rfl (op_move rfl) ?_
     refine ol_pure rfl (op_add rfl rfl (by omega) (by omega)) ?_
     refine ol_pure rfl (op_assign rfl) ?_
     refine ol_nil ?_
     refine pq_loop _ _ (by exact (by replace hS := SS.drop [] hS; exact ⟨more2, k + 1, l2, rfl, by omega, rfl, hW.skip hlt (fun hh _ => by simp at hh h39; rw [hh] at h39; cases h39), hS⟩)) ((Sub.cons rfl (Sub.cons rfl (Sub.cons rfl (Sub.cons rfl (Sub.cons rfl Sub.nil)))))) (by omega)
   ·
    skip
    try simp only [decide_eq_true_eq, decide_eq_false_iff_not, Bool.not_eq_true', Bool.not_eq_false', Bool.not_eq_eq_eq_not, Bool.not_true, Bool.not_false] at h32
    refine ol_guard_no rfl rfl rfl rfl ?_
    refine ol_guard_no rfl rfl rfl rfl ?_
    refine ol_guard_no rfl rfl rfl rfl ?_
    refine ol_guard_no rfl rfl rfl rfl ?_
    refine ol_guard_no rfl rfl rfl rfl ?_
    refine ol_pure rfl (op_pick_f rfl rfl) ?_
    refine ol_pure rfl (op_move rfl) ?_
    refine ol_guard_no rfl rfl rfl rfl ?_
    refine ol_guard_no rfl rfl rfl rfl ?_
    refine ol_guard_no rfl rfl rfl rfl ?_
    refine ol_guard_no rfl rfl rfl rfl ?_
    refine ol_pure rfl (op_pick_f rfl rfl) ?_
    refine ol_nil ?_
    refine pq_then ?_
    refine cw_cond_f rfl ?_
    refine cw_skip ?_
    refine pq_in_normal ?_
    refine pq_then ?_
    refine cw_region ?_
    refine ol_pure rfl (op_move rfl) ?_
    refine ol_pure rfl (op_add rfl rfl (by omega) (by omega)) ?_
    refine ol_pure rfl (op_assign rfl) ?_
    refine ol_nil ?_
    refine pq_loop _ _ (by exact (by replace hS := SS.drop [] hS; exact ⟨more2, k + 1, l2, rfl, by omega, rfl, hW.skip hlt (fun _ _ => by rw [hhe]; simpa using h32), hS⟩)) ((Sub.cons rfl (Sub.cons rfl (Sub.cons rfl (Sub.cons rfl (Sub.cons rfl Sub.nil)))))) (by omega)
  ·
   skip
   try simp only [decide_eq_true_eq, decide_eq_false_iff_not, Bool.not_eq_true', Bool.not_eq_false', Bool.not_eq_eq_eq_not, Bool.not_true, Bool.not_false] at h18
   refine cw_exit ?_
   refine pq_exit ?_
   refine pq_exit ?_
   refine pq_in_exit ?_
   refine pq_in_normal ?_
   refine pq_loop _ _ (by exact ⟨more2, l2, rfl, rfl, hW.len, hW.sound, (fun hm => by subst hm; exact hW.least (by omega)), hS⟩) ((Sub.cons rfl (Sub.cons rfl (Sub.cons rfl (Sub.cons rfl Sub.nil))))) (hW.meas)
 ·
  skip
  try simp only [decide_eq_true_eq, decide_eq_false_iff_not, Bool.not_eq_true', Bool.not_eq_false', Bool.not_eq_eq_eq_not, Bool.not_true, Bool.not_false] at h13
  refine cw_exit ?_
  refine pq_exit ?_
  refine pq_exit ?_
  refine pq_in_exit ?_
  refine pq_then ?_
  refine cw_seq ?_
  refine cw_region ?_
  refine ol_pure rfl (op_move rfl) ?_
  refine ol_pure rfl (op_assign rfl) ?_
  refine ol_nil ?_
  refine pq_then ?_
  refine cw_ret ?_
  refine ret1 rfl rfl ?_
  subst h13
  have hlst := hdn rfl
  rw [hlst.unique (gam_is hP so) (hP.filter _)] at hS
  exact hS.rt_row [] (by decide) (Rows.bools _) EBool.mono (gam_len _ _ _).symm
set_option maxRecDepth 100000 in
set_option maxHeartbeats 400000 in

theorem R17_Model_c (G : GH) (w0 : World) (hG : Holds G w0) {α : Type} {E : ER α} (hE : EMono E) (va vr : Value) (atoms : List α) (rs : List Rule) (h1 : RSl 1 E G va atoms) (h2 : RSl 3 ERule G vr rs) (hP : PrOk atoms.length rs)  :
   Calls Try.prog 22 #[.agg #[va, vr]] w0 (Rt noG w0 (fun G v => RSl 1 EInt G v (modelI atoms.length rs))) := by
 obtain ⟨oA, cA, rfl, hlA, hmA⟩ := h1.elim
 obtain ⟨oR, cR, rfl, hlR, hmR⟩ := h2.elim
 have hPn := hP.n_le
 have hPm := hP.m_le
 refine enter Try.func22 rfl (N := 57) rfl (Nat.le_of_ble_eq_true rfl) ?_
 have hS := SS.init hG
 refine cw_seq ?_
 refine cw_region ?_
 refine ol_step rfl (op_box hS rfl rfl) ?_
 clear hS
 rintro _ w ⟨b1, rfl, hS⟩
 refine ol_pure rfl (op_assign rfl) ?_
 refine ol_nil ?_
 refine pq_then ?_
 refine cw_seq ?_
 refine cw_region ?_
 refine ol_pure rfl (op_fieldAddr fld_26_0 rfl) ?_
 refine ol_load rfl (op_load1 one_24 rfl (fun w hw => (hw.bcell (i := 0) rfl).trans rfl)) hS ?_
 refine ol_pure rfl (op_len sl_24 rfl rfl) ?_
 refine ol_step rfl (op_makeSlice (n := atoms.length) hS sl_49 el_4 rfl rfl rfl (by omega) (by unfold maxLen; omega)) ?_
 clear hS
 rintro _ w ⟨up, rfl, hS⟩
 refine ol_pure rfl (op_assign rfl) ?_
 refine ol_nil ?_
 refine pq_then ?_
 refine cw_seq ?_
 refine cw_seq ?_
 refine cw_region ?_
 refine ol_pure rfl (op_assign rfl) ?_
 refine ol_nil ?_
 refine pq_then ?_
 refine cw_block ?_
 refine cw_loop (fun e w n => ∃ k : Nat, e = [(1, .pointer (some ⟨b1, 0, none⟩)), (3, .slice up atoms.length atoms.length), (4, .int .i64 (k : Nat))] ∧ k ≤ atoms.length ∧ n = atoms.length - k ∧ SS G w0 G [.row up atoms.length atoms.length 4 1 (((List.replicate atoms.length true).take k).map Value.bool ++ List.replicate (atoms.length - k) (.bool false)), .blk b1 26 [.slice oA atoms.length cA, .slice oR rs.length cR]] w) _ _ (by exact ⟨0, rfl, Nat.zero_le _, rfl, by simpa using hS⟩) ((Sub.cons rfl (Sub.cons rfl (Sub.cons rfl Sub.nil)))) ?_
 clear hS
 rintro e w n ⟨k, rfl, hk, rfl, hS⟩
 refine cw_seq ?_
 refine cw_seq ?_
 refine cw_region ?_
 refine ol_pure rfl (op_move rfl) ?_
 refine ol_pure rfl (op_move rfl) ?_
 refine ol_pure rfl (op_len sl_49 rfl rfl) ?_
 refine ol_pure rfl (op_lss rfl rfl) ?_
 refine ol_nil ?_
 refine pq_then ?_
 refine cw_cond rfl (fun h17 => ?_) (fun h17 => ?_)
 ·
  skip
  try simp only [decide_eq_true_eq, decide_eq_false_iff_not, Bool.not_eq_true', Bool.not_eq_false', Bool.not_eq_eq_eq_not, Bool.not_true, Bool.not_false] at h17
  have hlt : k < atoms.length := by omega
  refine cw_skip ?_
  refine pq_then ?_
  refine cw_seq ?_
  refine cw_block ?_
  refine cw_region ?_
  refine ol_pure rfl (op_move rfl) ?_
  refine ol_pure rfl (op_move rfl) ?_
  have hoa := (hS.news (j := 0) rfl k _ (List.getElem?_eq_getElem (by simp; omega))).1
  refine ol_pure rfl (op_indexN sl_49 rfl rfl (by omega) (by assumption)) ?_
  refine ol_step0  (op_storeR (j := 0) (k := k * 1) hS sz_4 rfl rfl rfl rfl (by simp; omega)) ?_
  clear hS
  rintro _ w hS; (try simp only [List.nil_append, List.cons_append, List.set] at hS)
  rw [fill_set Value.bool (.bool false) (List.replicate atoms.length true) atoms.length k true hlt (by simp [hlt])] at hS
  refine ol_nil ?_
  refine pq_in_normal ?_
  refine pq_then ?_
  refine cw_region ?_
  refine ol_pure rfl (op_move rfl) ?_
  refine ol_pure rfl (op_add rfl rfl (by omega) (by omega)) ?_
  refine ol_pure rfl (op_assign rfl) ?_
  refine ol_nil ?_
  refine pq_loop _ _ (by exact ⟨k + 1, rfl, by omega, rfl, hS⟩) ((Sub.cons rfl (Sub.cons rfl (Sub.cons rfl Sub.nil)))) (by omega)
 ·
  skip
  try simp only [decide_eq_true_eq, decide_eq_false_iff_not, Bool.not_eq_true', Bool.not_eq_false', Bool.not_eq_eq_eq_not, Bool.not_true, Bool.not_false] at h17
  have hk0 : k = atoms.length := by omega
  subst hk0
  rw [Nat.sub_self, List.replicate_zero, List.append_nil, List.take_of_length_le (by simp)] at hS
  obtain ⟨G1, hl1, hS2, hUp⟩ := SS.give [] hS (by decide) EBool.mono (Rows.boolsG G (List.replicate atoms.length true)) (by simp)
  clear hS
  have hS := hS2
  clear hS2
  refine cw_exit ?_
  refine pq_exit ?_
  refine pq_exit ?_
  refine pq_in_exit ?_
  refine pq_then ?_
  refine cw_seq ?_
  refine cw_region ?_
  refine ol_load rfl (op_loadN agg_26 rfl (by rfl) (fun w hw k u hk => (hw.bcell (i := 0) rfl).trans hk)) hS ?_
  refine ol_pure rfl (op_move rfl) ?_
  refine ol_step rfl (op_call_fr hS cf_54 rfl (R17_Least_c G1 _ hS.hold hE _ _ atoms rs (h1.mono hE hl1) (h2.mono ERule.mono hl1) hP _ _ hUp)) ?_
  clear hS
  rintro v25 w ⟨F25, G2, hR25, hF25, hf25, hl25, hS⟩
  obtain ⟨oL, cL, rfl, hlL, hmL⟩ := hR25.elimN (gam_len _ _ _)
  refine ol_pure rfl (op_assign rfl) ?_
  refine ol_nil ?_
  refine pq_then ?_
  refine cw_seq ?_
  refine cw_block ?_
  refine cw_loop (fun e w n => ∃ kk oL cL Gl, e = [(1, .pointer (some ⟨b1, 0, none⟩)), (5, .slice oL atoms.length cL)] ∧ RSl 1 EBool Gl (.slice oL atoms.length cL) (altB atoms.length rs kk) ∧ Le G Gl ∧ n = atoms.length - cntB (altB atoms.length rs kk) ∧ SS G w0 Gl [.blk b1 26 [.slice oA atoms.length cA, .slice oR rs.length cR]] w) _ _ (by exact ⟨0, oL, cL, G2, rfl, hR25.mono EBool.mono hf25, hl1.trans hl25, rfl, hS⟩) ((Sub.cons rfl (Sub.cons rfl Sub.nil))) ?_
  clear hS
  rintro e w n ⟨kk, oL, cL, Gl, rfl, hlow, hlG, rfl, hS⟩
  refine cw_block ?_
  refine cw_seq ?_
  refine cw_region ?_
  refine ol_load rfl (op_loadN agg_26 rfl (by rfl) (fun w hw k u hk => (hw.bcell (i := 0) rfl).trans hk)) hS ?_
  refine ol_pure rfl (op_move rfl) ?_
  refine ol_step rfl (op_call_fr hS cf_54 rfl (R17_Least_c Gl _ hS.hold hE _ _ atoms rs (h1.mono hE hlG) (h2.mono ERule.mono hlG) hP _ _ hlow)) ?_
  clear hS
  rintro v28 w ⟨F28, Gh, hR28, hF28, hf28, hl28, hS⟩
  obtain ⟨oH, cH, rfl, hlH, hmH⟩ := hR28.elimN (gam_len _ _ _)
  refine ol_pure rfl (op_assign rfl) ?_
  refine ol_nil ?_
  refine pq_then ?_
  refine cw_seq ?_
  refine cw_region ?_
  refine ol_load rfl (op_loadN agg_26 rfl (by rfl) (fun w hw k u hk => (hw.bcell (i := 0) rfl).trans hk)) hS ?_
  refine ol_pure rfl (op_move rfl) ?_
  refine ol_step rfl (op_call_fr hS cf_54 rfl (R17_Least_c Gh _ hS.hold hE _ _ atoms rs (h1.mono hE (hlG.trans hl28)) (h2.mono ERule.mono (hlG.trans hl28)) hP _ _ (hR28.mono EBool.mono hf28))) ?_
  clear hS
  rintro v31 w ⟨F31, Gn, hR31, hF31, hf31, hl31, hS⟩
  obtain ⟨oN, cN, rfl, hlN, hmN⟩ := hR31.elimN (gam_len _ _ _)
  have hNx : RSl 1 EBool Gn (.slice oN atoms.length cN) (altB atoms.length rs (kk + 1)) := hR31.mono EBool.mono hf31
  have hLo := hlow.mono EBool.mono (hl28.trans hl31)
  have hHi := (hR28.mono EBool.mono hf28).mono EBool.mono hl31
  refine ol_pure rfl (op_assign rfl) ?_
  refine ol_nil ?_
  refine pq_then ?_
  refine cw_seq ?_
  refine cw_seq ?_
  refine cw_region ?_
  refine ol_pure rfl (op_move rfl) ?_
  refine ol_pure rfl (op_move rfl) ?_
  refine ol_step rfl (op_call_sc hS cf_55 rfl (R17_Bools_c Gn _ hS.hold _ _ _ _ hNx hLo)) ?_
  clear hS
  rintro _ w ⟨rfl, hS⟩
  refine ol_nil ?_
  refine pq_then ?_
  refine cw_cond rfl (fun h34 => ?_) (fun h34 => ?_)
  ·
   skip
   try simp only [decide_eq_true_eq, decide_eq_false_iff_not, Bool.not_eq_true', Bool.not_eq_false', Bool.not_eq_eq_eq_not, Bool.not_true, Bool.not_false] at h34
   have hdone := altB_done hP h34
   rw [hdone] at hLo hHi
   refine cw_exit ?_
   refine pq_exit ?_
   refine pq_in_other rfl ?_
   refine pq_exit ?_
   refine pq_in_exit ?_
   refine pq_then ?_
   refine cw_seq ?_
   refine cw_region ?_
   refine ol_step rfl (op_buildSlice (el := 3) (is := []) (xs := []) (sz := 1) (cs := []) hS rfl rfl (fun w => by kernel_rfl) rfl (by decide)) ?_
   clear hS
   rintro _ w ⟨o7, rfl, hS⟩
   refine ol_pure rfl (op_assign rfl) ?_
   refine ol_nil ?_
   refine pq_then ?_
   refine cw_seq ?_
   refine cw_seq ?_
   refine cw_region ?_
   refine ol_pure rfl (op_assign rfl) ?_
   refine ol_nil ?_
   refine pq_then ?_
   refine cw_block ?_
   refine cw_loop (fun e w n => ∃ i o7 c7, e = [(3, .slice oH atoms.length cH), (5, .slice oL atoms.length cL), (7, .slice o7 i c7), (8, .int .i64 (i : Nat))] ∧ i ≤ atoms.length ∧ n = atoms.length - i ∧ SS G w0 Gn [.row o7 i c7 3 1 (((modelI atoms.length rs).take i).map (Value.int .i64)), .blk b1 26 [.slice oA atoms.length cA, .slice oR rs.length cR]] w) _ _ (by exact ⟨0, o7, _, rfl, Nat.zero_le _, rfl, by simpa using hS⟩) ((Sub.cons rfl (Sub.cons rfl (Sub.cons rfl (Sub.cons rfl Sub.nil))))) ?_
   clear hS
   rintro e w n ⟨i, o7, c7, rfl, hi, rfl, hS⟩
   refine cw_seq ?_
   refine cw_seq ?_
   refine cw_region ?_
   refine ol_pure rfl (op_move rfl) ?_
   refine ol_pure rfl (op_move rfl) ?_
   refine ol_pure rfl (op_len sl_49 rfl rfl) ?_
   refine ol_pure rfl (op_lss rfl rfl) ?_
   refine ol_nil ?_
   refine pq_then ?_
   refine cw_cond rfl (fun h40 => ?_) (fun h40 => ?_)
   ·
    skip
    try simp only [decide_eq_true_eq, decide_eq_false_iff_not, Bool.not_eq_true', Bool.not_eq_false', Bool.not_eq_eq_eq_not, Bool.not_true, Bool.not_false] at h40
    have hlt : i < atoms.length := by omega
    have hl1 : i < (lowB atoms.length rs).length := by rw [lowB, altB_len]; exact hlt
    have hl2 : i < (gam atoms.length rs (lowB atoms.length rs)).length := by rw [gam_len]; exact hlt
    obtain ⟨hoL, hcL⟩ := hLo.bool hl1
    obtain ⟨hoH, hcH⟩ := hHi.bool hl2
    have hg : (if atB (lowB atoms.length rs) (i : Int) = true then (2 : Int) else if atB (gam atoms.length rs (lowB atoms.length rs)) (i : Int) = true then 1 else 0) = if (lowB atoms.length rs)[i] = true then 2 else if (gam atoms.length rs (lowB atoms.length rs))[i] = true then 1 else 0 := by
      rw [atB_nat, atB_nat]
      simp [hl1, hl2]
    refine cw_skip ?_
    refine pq_then ?_
    refine cw_seq ?_
    refine cw_block ?_
    refine cw_seq ?_
    refine cw_region ?_
    refine ol_pure rfl (op_assign rfl) ?_
    refine ol_nil ?_
    refine pq_then ?_
    refine cw_seq ?_
    refine cw_seq ?_
    refine cw_region ?_
    refine ol_pure rfl (op_move rfl) ?_
    refine ol_pure rfl (op_move rfl) ?_
    refine ol_pure rfl (op_indexN sl_49 rfl rfl (by omega) (by assumption)) ?_
    refine ol_load rfl (op_load1 one_4 rfl (fun w hw => by first | exact hw.gcell (by assumption) | exact hw.gcell0 (by assumption))) hS ?_
    refine ol_nil ?_
    refine pq_then ?_
    refine cw_cond rfl (fun h46 => ?_) (fun h46 => ?_)
    ·
     skip
     try simp only [decide_eq_true_eq, decide_eq_false_iff_not, Bool.not_eq_true', Bool.not_eq_false', Bool.not_eq_eq_eq_not, Bool.not_true, Bool.not_false] at h46
     refine cw_region ?_
     refine ol_pure rfl (op_assign rfl) ?_
     refine ol_nil ?_
     refine pq_then ?_
     refine cw_region ?_
     refine ol_pure rfl (op_move rfl) ?_
     refine ol_pure rfl (op_move rfl) ?_
     refine ol_step rfl (op_buildSlice (el := 3) (is := [0]) (xs := [.tmp 53]) (sz := 1) (cs := [.int .i64 (2)]) hS rfl rfl (fun w => by kernel_rfl) rfl (by decide)) ?_
     clear hS
     rintro _ w ⟨s54, rfl, hS⟩
     refine ol_step rfl (op_append (j := 1) hS sl_28 el_3 rfl rfl rfl rfl rfl rfl (by decide) (hS.news (j := 0) rfl) (by simp [Value.oneCell']) (by omega) (by unfold maxLen; omega)) ?_
     clear hS
     rintro _ w ⟨o7n, c_o7n, rfl, hS⟩; (try simp only [List.nil_append, List.cons_append, List.set] at hS); replace hS := SS.drop [] hS; (try simp only [List.nil_append, List.cons_append] at hS)
     refine ol_pure rfl (op_assign rfl) ?_
     refine ol_nil ?_
     refine pq_in_normal ?_
     refine pq_then ?_
     refine cw_region ?_
     refine ol_pure rfl (op_move rfl) ?_
     refine ol_pure rfl (op_add rfl rfl (by omega) (by omega)) ?_
     refine ol_pure rfl (op_assign rfl) ?_
     refine ol_nil ?_
     refine pq_loop _ _ (by exact ⟨i + 1, o7n, c_o7n, rfl, by omega, rfl, by rw [modelI_take i hlt, hg, if_pos h46]; simpa using hS⟩) ((Sub.cons rfl (Sub.cons rfl (Sub.cons rfl (Sub.cons rfl Sub.nil))))) (by omega)
    ·
     skip
     try simp only [decide_eq_true_eq, decide_eq_false_iff_not, Bool.not_eq_true', Bool.not_eq_false', Bool.not_eq_eq_eq_not, Bool.not_true, Bool.not_false] at h46
     refine cw_seq ?_
     refine cw_region ?_
     refine ol_pure rfl (op_move rfl) ?_
     refine ol_pure rfl (op_move rfl) ?_
     refine ol_pure rfl (op_indexN sl_49 rfl rfl (by omega) (by assumption)) ?_
     refine ol_load rfl (op_load1 one_4 rfl (fun w hw => by first | exact hw.gcell (by assumption) | exact hw.gcell0 (by assumption))) hS ?_
     refine ol_pure rfl (op_not rfl) ?_
     refine ol_nil ?_
     refine pq_then ?_
     refine cw_cond rfl (fun h51 => ?_) (fun h51 => ?_)
     ·
      skip
      try simp only [decide_eq_true_eq, decide_eq_false_iff_not, Bool.not_eq_true', Bool.not_eq_false', Bool.not_eq_eq_eq_not, Bool.not_true, Bool.not_false] at h51
      refine cw_region ?_
      refine ol_pure rfl (op_assign rfl) ?_
      refine ol_nil ?_
      refine pq_then ?_
      refine cw_region ?_
      refine ol_pure rfl (op_move rfl) ?_
      refine ol_pure rfl (op_move rfl) ?_
      refine ol_step rfl (op_buildSlice (el := 3) (is := [0]) (xs := [.tmp 53]) (sz := 1) (cs := [.int .i64 (0)]) hS rfl rfl (fun w => by kernel_rfl) rfl (by decide)) ?_
      clear hS
      rintro _ w ⟨s54, rfl, hS⟩
      refine ol_step rfl (op_append (j := 1) hS sl_28 el_3 rfl rfl rfl rfl rfl rfl (by decide) (hS.news (j := 0) rfl) (by simp [Value.oneCell']) (by omega) (by unfold maxLen; omega)) ?_
      clear hS
      rintro _ w ⟨o7n, c_o7n, rfl, hS⟩; (try simp only [List.nil_append, List.cons_append, List.set] at hS); replace hS := SS.drop [] hS; (try simp only [List.nil_append, List.cons_append] at hS)
      refine ol_pure rfl (op_assign rfl) ?_
      refine ol_nil ?_
      refine pq_in_normal ?_
      refine pq_then ?_
      refine cw_region ?_
      refine ol_pure rfl (op_move rfl) ?_
      refine ol_pure rfl (op_add rfl rfl (by omega) (by omega)) ?_
      refine ol_pure rfl (op_assign rfl) ?_
      refine ol_nil ?_
      refine pq_loop _ _ (by exact ⟨i + 1, o7n, c_o7n, rfl, by omega, rfl, by rw [modelI_take i hlt, hg, if_neg (by simp [h46]), if_neg (by simp [h51])]; simpa using hS⟩) ((Sub.cons rfl (Sub.cons rfl (Sub.cons rfl (Sub.cons rfl Sub.nil))))) (by omega)
     ·
      skip
      try simp only [decide_eq_true_eq, decide_eq_false_iff_not, Bool.not_eq_true', Bool.not_eq_false', Bool.not_eq_eq_eq_not, Bool.not_true, Bool.not_false] at h51
      refine cw_skip ?_
      refine pq_then ?_
      refine cw_region ?_
      refine ol_pure rfl (op_move rfl) ?_
      refine ol_pure rfl (op_move rfl) ?_
      refine ol_step rfl (op_buildSlice (el := 3) (is := [0]) (xs := [.tmp 53]) (sz := 1) (cs := [.int .i64 (1)]) hS rfl rfl (fun w => by kernel_rfl) rfl (by decide)) ?_
      clear hS
      rintro _ w ⟨s54, rfl, hS⟩
      refine ol_step rfl (op_append (j := 1) hS sl_28 el_3 rfl rfl rfl rfl rfl rfl (by decide) (hS.news (j := 0) rfl) (by simp [Value.oneCell']) (by omega) (by unfold maxLen; omega)) ?_
      clear hS
      rintro _ w ⟨o7n, c_o7n, rfl, hS⟩; (try simp only [List.nil_append, List.cons_append, List.set] at hS); replace hS := SS.drop [] hS; (try simp only [List.nil_append, List.cons_append] at hS)
      refine ol_pure rfl (op_assign rfl) ?_
      refine ol_nil ?_
      refine pq_in_normal ?_
      refine pq_then ?_
      refine cw_region ?_
      refine ol_pure rfl (op_move rfl) ?_
      refine ol_pure rfl (op_add rfl rfl (by omega) (by omega)) ?_
      refine ol_pure rfl (op_assign rfl) ?_
      refine ol_nil ?_
      refine pq_loop _ _ (by exact ⟨i + 1, o7n, c_o7n, rfl, by omega, rfl, by rw [modelI_take i hlt, hg, if_neg (by simp [h46]), if_pos (by simpa using h51)]; simpa using hS⟩) ((Sub.cons rfl (Sub.cons rfl (Sub.cons rfl (Sub.cons rfl Sub.nil))))) (by omega)
   ·
    skip
    try simp only [decide_eq_true_eq, decide_eq_false_iff_not, Bool.not_eq_true', Bool.not_eq_false', Bool.not_eq_eq_eq_not, Bool.not_true, Bool.not_false] at h40
    refine cw_exit ?_
    refine pq_exit ?_
    refine pq_exit ?_
    refine pq_in_exit ?_
    refine pq_then ?_
    refine cw_seq ?_
    refine cw_region ?_
    refine ol_pure rfl (op_move rfl) ?_
    refine ol_pure rfl (op_assign rfl) ?_
    refine ol_nil ?_
    refine pq_then ?_
    refine cw_ret ?_
    refine ret1 rfl rfl ?_
    have hi0 : i = (modelI atoms.length rs).length := by rw [modelI_len]; omega
    subst hi0
    rw [List.take_length] at hS
    exact hS.rt_row [] (by decide) (Rows.ints (fun x hx => by have := modelI_range hx; omega)) EInt.mono rfl
  ·
   skip
   try simp only [decide_eq_true_eq, decide_eq_false_iff_not, Bool.not_eq_true', Bool.not_eq_false', Bool.not_eq_eq_eq_not, Bool.not_true, Bool.not_false] at h34
   have hne : altB atoms.length rs (kk + 1) ≠ altB atoms.length rs kk := h34
   refine cw_skip ?_
   refine pq_then ?_
   refine cw_region ?_
   refine ol_pure rfl (op_move rfl) ?_
   refine ol_pure rfl (op_assign rfl) ?_
   refine ol_nil ?_
   refine pq_in_normal ?_
   refine pq_loop _ _ (by exact ⟨kk + 1, oN, cN, Gn, rfl, hNx, (hlG.trans hl28).trans hl31, rfl, hS⟩) ((Sub.cons rfl (Sub.cons rfl Sub.nil))) (by
       have h1 := altB_lt hP kk hne
       have h2 := cntB_le (altB atoms.length rs (kk + 1))
       rw [altB_len] at h2
       omega)
set_option maxRecDepth 100000 in
set_option maxHeartbeats 400000 in

theorem R17_Unfounded_c (G : GH) (w0 : World) (hG : Holds G w0) {α : Type} {E : ER α} (hE : EMono E) (va vr : Value) (atoms : List α) (rs : List Rule) (h1 : RSl 1 E G va atoms) (h2 : RSl 3 ERule G vr rs) (hP : PrOk atoms.length rs) (vm : Value) (m : List Int) (h3 : RSl 1 EInt G vm m) :
   Calls Try.prog 51 #[.agg #[va, vr], vm] w0 (Rt noG w0 (fun G v => RSl 1 EInt G v (unfI atoms.length rs m))) := by
 obtain ⟨oA, cA, rfl, hlA, hmA⟩ := h1.elim
 obtain ⟨oR, cR, rfl, hlR, hmR⟩ := h2.elim
 have hPn := hP.n_le
 have hPm := hP.m_le
 obtain ⟨oM, cM, rfl, hlM, hmM⟩ := h3.elim
 refine enter Try.func51 rfl (N := 76) rfl (Nat.le_of_ble_eq_true rfl) ?_
 have hS := SS.init hG
 refine cw_seq ?_
 refine cw_region ?_
 refine ol_step rfl (op_box hS rfl rfl) ?_
 clear hS
 rintro _ w ⟨b2, rfl, hS⟩
 refine ol_pure rfl (op_assign rfl) ?_
 refine ol_nil ?_
 refine pq_then ?_
 refine cw_seq ?_
 refine cw_region ?_
 refine ol_pure rfl (op_fieldAddr fld_26_0 rfl) ?_
 refine ol_load rfl (op_load1 one_24 rfl (fun w hw => (hw.bcell (i := 0) rfl).trans rfl)) hS ?_
 refine ol_pure rfl (op_len sl_24 rfl rfl) ?_
 refine ol_step rfl (op_makeSlice (n := atoms.length) hS sl_49 el_4 rfl rfl rfl (by omega) (by unfold maxLen; omega)) ?_
 clear hS
 rintro _ w ⟨in_, rfl, hS⟩
 refine ol_pure rfl (op_assign rfl) ?_
 refine ol_nil ?_
 refine pq_then ?_
 refine cw_seq ?_
 refine cw_seq ?_
 refine cw_region ?_
 refine ol_pure rfl (op_assign rfl) ?_
 refine ol_nil ?_
 refine pq_then ?_
 refine cw_block ?_
 refine cw_loop (fun e w n => ∃ k : Nat, e = [(1, .slice oM m.length cM), (2, .pointer (some ⟨b2, 0, none⟩)), (5, .slice in_ atoms.length atoms.length), (6, .int .i64 (k : Nat))] ∧ k ≤ atoms.length ∧ n = atoms.length - k ∧ SS G w0 G [.row in_ atoms.length atoms.length 4 1 (((List.replicate atoms.length true).take k).map Value.bool ++ List.replicate (atoms.length - k) (.bool false)), .blk b2 26 [.slice oA atoms.length cA, .slice oR rs.length cR]] w) _ _ (by exact ⟨0, rfl, Nat.zero_le _, rfl, by simpa using hS⟩) ((Sub.cons rfl (Sub.cons rfl (Sub.cons rfl (Sub.cons rfl Sub.nil))))) ?_
 clear hS
 rintro e w n ⟨k, rfl, hk, rfl, hS⟩
 refine cw_seq ?_
 refine cw_seq ?_
 refine cw_region ?_
 refine ol_pure rfl (op_move rfl) ?_
 refine ol_pure rfl (op_move rfl) ?_
 refine ol_pure rfl (op_len sl_49 rfl rfl) ?_
 refine ol_pure rfl (op_lss rfl rfl) ?_
 refine ol_nil ?_
 refine pq_then ?_
 refine cw_cond rfl (fun h19 => ?_) (fun h19 => ?_)
 ·
  skip
  try simp only [decide_eq_true_eq, decide_eq_false_iff_not, Bool.not_eq_true', Bool.not_eq_false', Bool.not_eq_eq_eq_not, Bool.not_true, Bool.not_false] at h19
  have hlt : k < atoms.length := by omega
  refine cw_skip ?_
  refine pq_then ?_
  refine cw_seq ?_
  refine cw_block ?_
  refine cw_region ?_
  refine ol_pure rfl (op_move rfl) ?_
  refine ol_pure rfl (op_move rfl) ?_
  have hoa := (hS.news (j := 0) rfl k _ (List.getElem?_eq_getElem (by simp; omega))).1
  refine ol_pure rfl (op_indexN sl_49 rfl rfl (by omega) (by assumption)) ?_
  refine ol_step0  (op_storeR (j := 0) (k := k * 1) hS sz_4 rfl rfl rfl rfl (by simp; omega)) ?_
  clear hS
  rintro _ w hS; (try simp only [List.nil_append, List.cons_append, List.set] at hS)
  rw [fill_set Value.bool (.bool false) (List.replicate atoms.length true) atoms.length k true hlt (by simp [hlt])] at hS
  refine ol_nil ?_
  refine pq_in_normal ?_
  refine pq_then ?_
  refine cw_region ?_
  refine ol_pure rfl (op_move rfl) ?_
  refine ol_pure rfl (op_add rfl rfl (by omega) (by omega)) ?_
  refine ol_pure rfl (op_assign rfl) ?_
  refine ol_nil ?_
  refine pq_loop _ _ (by exact ⟨k + 1, rfl, by omega, rfl, hS⟩) ((Sub.cons rfl (Sub.cons rfl (Sub.cons rfl (Sub.cons rfl Sub.nil))))) (by omega)
 ·
  skip
  try simp only [decide_eq_true_eq, decide_eq_false_iff_not, Bool.not_eq_true', Bool.not_eq_false', Bool.not_eq_eq_eq_not, Bool.not_true, Bool.not_false] at h19
  have hk0 : k = atoms.length := by omega
  subst hk0
  rw [Nat.sub_self, List.replicate_zero, List.append_nil, List.take_of_length_le (by simp)] at hS
  refine cw_exit ?_
  refine pq_exit ?_
  refine pq_exit ?_
  refine pq_in_exit ?_
  refine pq_then ?_
  refine cw_seq ?_
  refine cw_seq ?_
  refine cw_region ?_
  refine ol_pure rfl (op_assign rfl) ?_
  refine ol_nil ?_
  refine pq_then ?_
  refine cw_block ?_
  refine cw_loop (fun e w n => ∃ more x, e = [(1, .slice oM m.length cM), (2, .pointer (some ⟨b2, 0, none⟩)), (5, .slice in_ atoms.length atoms.length), (7, .bool more)] ∧ n = measB atoms.length (List.map (!·) x) more ∧ (List.map (!·) x).length = atoms.length ∧ (∀ a : Nat, a < atoms.length → atB (List.map (!·) x) a = true → Der (rs.filter (fun r => !failsB r m)) a) ∧ (more = false → IsLeast atoms.length (rs.filter (fun r => !failsB r m)) (List.map (!·) x)) ∧ SS G w0 G [.row in_ atoms.length atoms.length 4 1 (x.map Value.bool), .blk b2 26 [.slice oA atoms.length cA, .slice oR rs.length cR]] w) _ _ (by exact ⟨true, List.replicate atoms.length true, rfl, rfl, by simp, (fun a ha hat => by simp [atB_nat, ha] at hat), (fun hh => by cases hh), hS⟩) ((Sub.cons rfl (Sub.cons rfl (Sub.cons rfl (Sub.cons rfl Sub.nil))))) ?_
  clear hS
  rintro e w n ⟨more, x, rfl, rfl, hll, hsd, hdn, hS⟩
  refine cw_seq ?_
  refine cw_seq ?_
  refine cw_region ?_
  refine ol_pure rfl (op_move rfl) ?_
  refine ol_nil ?_
  refine pq_then ?_
  refine cw_cond rfl (fun h25 => ?_) (fun h25 => ?_)
  ·
   skip
   try simp only [decide_eq_true_eq, decide_eq_false_iff_not, Bool.not_eq_true', Bool.not_eq_false', Bool.not_eq_eq_eq_not, Bool.not_true, Bool.not_false] at h25
   subst h25
   refine cw_skip ?_
   refine pq_then ?_
   refine cw_block ?_
   refine cw_seq ?_
   refine cw_region ?_
   refine ol_pure rfl (op_assign rfl) ?_
   refine ol_nil ?_
   refine pq_then ?_
   refine cw_seq ?_
   refine cw_region ?_
   refine ol_pure rfl (op_assign rfl) ?_
   refine ol_nil ?_
   refine pq_then ?_
   refine cw_block ?_
   obtain ⟨l0, hl0⟩ : ∃ l0, l0 = x.map (!·) := ⟨_, rfl⟩
   refine cw_loop (fun e w n => ∃ more2 k x, e = [(1, .slice oM m.length cM), (2, .pointer (some ⟨b2, 0, none⟩)), (5, .slice in_ atoms.length atoms.length), (7, .bool more2), (8, .int .i64 (k : Nat))] ∧ k ≤ rs.length ∧ n = rs.length - k ∧ Grow atoms.length rs (fun r => !failsB r m) l0 (List.map (!·) x) k more2 ∧ SS G w0 G [.row in_ atoms.length atoms.length 4 1 (x.map Value.bool), .blk b2 26 [.slice oA atoms.length cA, .slice oR rs.length cR]] w) _ _ (by exact ⟨false, 0, x, rfl, Nat.zero_le _, rfl, (by rw [hl0]; exact Grow.start hll hsd), hS⟩) ((Sub.cons rfl (Sub.cons rfl (Sub.cons rfl (Sub.cons rfl (Sub.cons rfl Sub.nil)))))) ?_
   rw [← hl0]
   clear hS
   rintro e w n ⟨more2, k, x, rfl, hk, rfl, hW, hS⟩
   refine cw_seq ?_
   refine cw_seq ?_
   refine cw_region ?_
   refine ol_pure rfl (op_move rfl) ?_
   refine ol_pure rfl (op_fieldAddr fld_26_1 rfl) ?_
   refine ol_load rfl (op_load1 one_22 rfl (fun w hw => (hw.bcell (i := 1) rfl).trans rfl)) hS ?_
   refine ol_pure rfl (op_len sl_22 rfl rfl) ?_
   refine ol_pure rfl (op_lss rfl rfl) ?_
   refine ol_nil ?_
   refine pq_then ?_
   refine cw_cond rfl (fun h30 => ?_) (fun h30 => ?_)
   ·
    skip
    try simp only [decide_eq_true_eq, decide_eq_false_iff_not, Bool.not_eq_true', Bool.not_eq_false', Bool.not_eq_eq_eq_not, Bool.not_true, Bool.not_false] at h30
    have hlt : k < rs.length := by omega
    have hrk := (hP.rule _ (List.getElem_mem hlt)).1
    obtain ⟨hoa, cs, hcl, ⟨p, q, rfl, hp, hq, hhd⟩, hcells⟩ := h2.el hlt
    obtain ⟨op, cp, hpe, hlp, hmp⟩ := hp.elim
    obtain ⟨oq, cq, hqe, hlq, hmq⟩ := hq.elim
    subst hpe
    subst hqe
    obtain ⟨hd, hhe⟩ := Int.eq_ofNat_of_zero_le hrk.1.1
    have hdl : hd < atoms.length := by have := hrk.1.2; omega
    have hp0 : ∀ x ∈ rs[k].pos, 0 ≤ x := fun x hx => (hrk.2.1 x hx).1
    have hq0 : ∀ x ∈ rs[k].neg, 0 ≤ x := fun x hx => (hrk.2.2 x hx).1
    simp only [hhe] at hcells
    refine cw_skip ?_
    refine pq_then ?_
    refine cw_seq ?_
    refine cw_block ?_
    refine cw_seq ?_
    refine cw_region ?_
    refine ol_pure rfl (op_fieldAddr fld_26_1 rfl) ?_
    refine ol_load rfl (op_load1 one_22 rfl (fun w hw => (hw.bcell (i := 1) rfl).trans rfl)) hS ?_
    refine ol_pure rfl (op_move rfl) ?_
    refine ol_pure rfl (op_indexN sl_22 rfl rfl (by omega) (by assumption)) ?_
    refine ol_load rfl (op_loadN agg_30 rfl (by rfl) (fun w hw k u hk => hw.gcell (hcells k u hk))) hS ?_
    refine ol_step rfl (op_alloc hS el_30 rfl) ?_
    clear hS
    rintro _ w ⟨b8, rfl, hS⟩
    refine ol_step0  (op_storeN (j := 0) hS sz_30 rfl rfl rfl rfl rfl (by simp [Value.oneCell'])) ?_
    clear hS
    rintro _ w hS; (try simp only [List.nil_append, List.cons_append, List.set] at hS)
    refine ol_nil ?_
    refine pq_then ?_
    refine cw_seq ?_
    have hl2 : x.length = atoms.length := by have := hW.len; simpa using this
    have hrc : (x.map Value.bool)[hd * 1]? = some (.bool (atB x (hd : Int))) := by
      have hx : hd < x.length := by omega
      rw [atB_nat]
      simp [hx]
    have hoo := (hS.news (j := 1) rfl _ _ hrc).1
    have hnx := notB_at (l := x) (i := hd) (by omega)
    have hany := any_not (l := x) (ns := rs[k].pos) (fun y hy => by rw [hl2]; exact hrk.2.1 y hy)
    refine cw_region ?_
    refine ol_pure rfl (op_move rfl) ?_
    refine ol_pure rfl (op_fieldAddr fld_30_0 rfl) ?_
    refine ol_load rfl (op_load1 one_3 rfl (fun w hw => (hw.bcell (i := 0) rfl).trans rfl)) hS ?_
    refine ol_pure rfl (op_indexN sl_49 rfl rfl (by omega) (by assumption)) ?_
    refine ol_load rfl (op_load1 one_4 rfl (fun w hw => hw.rcell (i := 1) rfl hrc)) hS ?_
    refine ol_pure rfl (op_move rfl) ?_
    refine ol_split (fun h43 => ?_) (fun h43 => ?_)
    ·
     skip
     try simp only [decide_eq_true_eq, decide_eq_false_iff_not, Bool.not_eq_true', Bool.not_eq_false', Bool.not_eq_eq_eq_not, Bool.not_true, Bool.not_false] at h43
     refine ol_guard_load rfl rfl rfl (op_loadN agg_30 rfl (by rfl) (fun w hw k u hk => (hw.bcell (i := 0) rfl).trans hk)) hS ?_
     refine ol_guard_pure rfl rfl rfl (op_move rfl) ?_
     refine ol_guard_step rfl rfl rfl (op_call_sc hS cf_68 rfl (hhe ▸ R17_fails_c G _ hS.hold rs[k] _ _ _ m hp hq h3 hp0 hq0)) ?_
     clear hS
     rintro _ w ⟨rfl, hS⟩
     refine ol_guard_pure rfl rfl rfl (op_not rfl) ?_
     refine ol_pure rfl (op_pick_t rfl rfl) ?_
     refine ol_pure rfl (op_move rfl) ?_
     refine ol_split (fun h49 => ?_) (fun h49 => ?_)
     ·
      skip
      try simp only [decide_eq_true_eq, decide_eq_false_iff_not, Bool.not_eq_true', Bool.not_eq_false', Bool.not_eq_eq_eq_not, Bool.not_true, Bool.not_false] at h49
      refine ol_guard_pure rfl rfl rfl (op_move rfl) ?_
      refine ol_guard_pure rfl rfl rfl (op_fieldAddr fld_30_1 rfl) ?_
      refine ol_guard_load rfl rfl rfl (op_load1 one_28 rfl (fun w hw => (hw.bcell (i := 0) rfl).trans rfl)) hS ?_
      have hlend := SS.lend [_] hS (by decide) EBool.mono (Rows.boolsG G x) hl2.symm
      refine ol_guard_step rfl rfl rfl (op_call_sc hS cf_69 rfl (R17_Any_c (fullG _) _ (Holds.full _) _ _ x rs[k].pos hlend (hp.mono EInt.mono hS.hold.le_full) hp0)) ?_
      clear hS
      rintro _ w ⟨rfl, hS⟩
      refine ol_guard_pure rfl rfl rfl (op_not rfl) ?_
      refine ol_pure rfl (op_pick_t rfl rfl) ?_
      refine ol_nil ?_
      refine pq_then ?_
      refine cw_cond rfl (fun h55 => ?_) (fun h55 => ?_)
      ·
       skip
       try simp only [decide_eq_true_eq, decide_eq_false_iff_not, Bool.not_eq_true', Bool.not_eq_false', Bool.not_eq_eq_eq_not, Bool.not_true, Bool.not_false] at h55
       refine cw_seq ?_
       refine cw_region ?_
       refine ol_pure rfl (op_move rfl) ?_
       refine ol_pure rfl (op_fieldAddr fld_30_0 rfl) ?_
       refine ol_load rfl (op_load1 one_3 rfl (fun w hw => (hw.bcell (i := 0) rfl).trans rfl)) hS ?_
       refine ol_pure rfl (op_indexN sl_49 rfl rfl (by omega) (by assumption)) ?_
       refine ol_step0  (op_storeR (j := 1) (k := hd * 1) hS sz_4 rfl rfl rfl rfl (by simp; omega)) ?_
       clear hS
       rintro _ w hS; (try simp only [List.nil_append, List.cons_append, List.set] at hS)
       refine ol_nil ?_
       refine pq_then ?_
       refine cw_region ?_
       refine ol_pure rfl (op_assign rfl) ?_
       refine ol_nil ?_
       refine pq_in_normal ?_
       refine pq_then ?_
       refine cw_region ?_
       refine ol_pure rfl (op_move rfl) ?_
       refine ol_pure rfl (op_add rfl rfl (by omega) (by omega)) ?_
       refine ol_pure rfl (op_assign rfl) ?_
       refine ol_nil ?_
       refine pq_loop _ _ (by exact (by
           replace hS := SS.drop [] hS
           rw [Nat.mul_one, ← List.map_set] at hS
           have h5 := hW.set (fun r hr => (hP.rule r hr).1) hlt (by simpa using h49) (by rw [hhe, hnx, h43]; rfl) (by rw [hany] at h55; simpa using h55)
           rw [hhe, Int.toNat_natCast] at h5
           exact ⟨true, k + 1, x.set hd false, rfl, by omega, rfl, by rw [List.map_set]; exact h5, hS⟩)) ((Sub.cons rfl (Sub.cons rfl (Sub.cons rfl (Sub.cons rfl (Sub.cons rfl Sub.nil)))))) (by omega)
      ·
       skip
       try simp only [decide_eq_true_eq, decide_eq_false_iff_not, Bool.not_eq_true', Bool.not_eq_false', Bool.not_eq_eq_eq_not, Bool.not_true, Bool.not_false] at h55
       refine cw_skip ?_
       refine pq_in_normal ?_
       refine pq_then ?_
       refine cw_region ?_
       refine ol_pure rfl (op_move rfl) ?_
       refine ol_pure rfl (op_add rfl rfl (by omega) (by omega)) ?_
       refine ol_pure rfl (op_assign rfl) ?_
       refine ol_nil ?_
       refine pq_loop _ _ (by exact (by replace hS := SS.drop [] hS; exact ⟨more2, k + 1, x, rfl, by omega, rfl, hW.skip hlt (fun _ hh => by rw [hany, hh] at h55; cases h55), hS⟩)) ((Sub.cons rfl (Sub.cons rfl (Sub.cons rfl (Sub.cons rfl (Sub.cons rfl Sub.nil)))))) (by omega)
     ·
      skip
      try simp only [decide_eq_true_eq, decide_eq_false_iff_not, Bool.not_eq_true', Bool.not_eq_false', Bool.not_eq_eq_eq_not, Bool.not_true, Bool.not_false] at h49
      refine ol_guard_no rfl rfl rfl rfl ?_
      refine ol_guard_no rfl rfl rfl rfl ?_
      refine ol_guard_no rfl rfl rfl rfl ?_
      refine ol_guard_no rfl rfl rfl rfl ?_
      refine ol_guard_no rfl rfl rfl rfl ?_
      refine ol_pure rfl (op_pick_f rfl rfl) ?_
      refine ol_nil ?_
      refine pq_then ?_
      refine cw_cond_f rfl ?_
      refine cw_skip ?_
      refine pq_in_normal ?_
      refine pq_then ?_
      refine cw_region ?_
      refine ol_pure rfl (op_move rfl) ?_
      refine ol_pure rfl (op_add rfl rfl (by omega) (by omega)) ?_
      refine ol_pure rfl (op_assign rfl) ?_
      refine ol_nil ?_
      refine pq_loop _ _ (by exact (by replace hS := SS.drop [] hS; exact ⟨more2, k + 1, x, rfl, by omega, rfl, hW.skip hlt (fun hh _ => by simp at hh h49; rw [hh] at h49; cases h49), hS⟩)) ((Sub.cons rfl (Sub.cons rfl (Sub.cons rfl (Sub.cons rfl (Sub.cons rfl Sub.nil)))))) (by omega)
    ·
     skip
     try simp only [decide_eq_true_eq, decide_eq_false_iff_not, Bool.not_eq_true', Bool.not_eq_false', Bool.not_eq_eq_eq_not, Bool.not_true, Bool.not_false] at h43
     refine ol_guard_no rfl rfl rfl rfl ?_
     refine ol_guard_no rfl rfl rfl rfl ?_
     refine ol_guard_no rfl rfl rfl rfl ?_
     refine ol_guard_no rfl rfl rfl rfl ?_
     refine ol_pure rfl (op_pick_f rfl rfl) ?_
     refine ol_pure rfl (op_move rfl) ?_
     refine ol_guard_no rfl rfl rfl rfl ?_
     refine ol_guard_no rfl rfl rfl rfl ?_
     refine ol_guard_no rfl rfl rfl rfl ?_
     refine ol_guard_no rfl rfl rfl rfl ?_
     refine ol_guard_no rfl rfl rfl rfl ?_
     refine ol_pure rfl (op_pick_f rfl rfl) ?_
     refine ol_nil ?_
     refine pq_then ?_
     refine cw_cond_f rfl ?_
     refine cw_skip ?_
     refine pq_in_normal ?_
     refine pq_then ?_
     refine cw_region ?_
     refine ol_pure rfl (op_move rfl) ?_
     refine ol_pure rfl (op_add rfl rfl (by omega) (by omega)) ?_
     refine ol_pure rfl (op_assign rfl) ?_
     refine ol_nil ?_
     refine pq_loop _ _ (by exact (by replace hS := SS.drop [] hS; exact ⟨more2, k + 1, x, rfl, by omega, rfl, hW.skip hlt (fun _ _ => by rw [hhe, hnx, h43]; rfl), hS⟩)) ((Sub.cons rfl (Sub.cons rfl (Sub.cons rfl (Sub.cons rfl (Sub.cons rfl Sub.nil)))))) (by omega)
   ·
    skip
    try simp only [decide_eq_true_eq, decide_eq_false_iff_not, Bool.not_eq_true', Bool.not_eq_false', Bool.not_eq_eq_eq_not, Bool.not_true, Bool.not_false] at h30
    refine cw_exit ?_
    refine pq_exit ?_
    refine pq_exit ?_
    refine pq_in_exit ?_
    refine pq_in_normal ?_
    refine pq_loop _ _ (by exact ⟨more2, x, rfl, rfl, hW.len, hW.sound, (fun hm => by subst hm; exact hW.least (by omega)), hS⟩) ((Sub.cons rfl (Sub.cons rfl (Sub.cons rfl (Sub.cons rfl Sub.nil))))) (hW.meas)
  ·
   skip
   try simp only [decide_eq_true_eq, decide_eq_false_iff_not, Bool.not_eq_true', Bool.not_eq_false', Bool.not_eq_eq_eq_not, Bool.not_true, Bool.not_false] at h25
   subst h25
   have hlst := (hdn rfl).unique (leastB_is atoms.length (rs.filter (fun r => !failsB r m)) (hP.filter _)) (hP.filter _)
   have hxl : x.length = atoms.length := by simpa using hll
   have hxx : x = (foundB atoms.length rs m).map (!·) := by rw [foundB, ← hlst, not_not_map]
   refine cw_exit ?_
   refine pq_exit ?_
   refine pq_exit ?_
   refine pq_in_exit ?_
   refine pq_then ?_
   refine cw_seq ?_
   refine cw_region ?_
   refine ol_step rfl (op_buildSlice (el := 3) (is := []) (xs := []) (sz := 1) (cs := []) hS rfl rfl (fun w => by kernel_rfl) rfl (by decide)) ?_
   clear hS
   rintro _ w ⟨o7, rfl, hS⟩
   refine ol_pure rfl (op_assign rfl) ?_
   refine ol_nil ?_
   refine pq_then ?_
   refine cw_seq ?_
   refine cw_seq ?_
   refine cw_region ?_
   refine ol_pure rfl (op_assign rfl) ?_
   refine ol_nil ?_
   refine pq_then ?_
   refine cw_block ?_
   refine cw_loop (fun e w n => ∃ i o7 l7 c7, e = [(5, .slice in_ atoms.length atoms.length), (10, .slice o7 l7 c7), (11, .int .i64 (i : Nat))] ∧ i ≤ atoms.length ∧ n = atoms.length - i ∧ l7 = (pickI (fun i => !atB (foundB atoms.length rs m) (i : Int)) i).length ∧ SS G w0 G [.row o7 l7 c7 3 1 ((pickI (fun i => !atB (foundB atoms.length rs m) (i : Int)) i).map (Value.int .i64)), .row in_ atoms.length atoms.length 4 1 (x.map Value.bool), .blk b2 26 [.slice oA atoms.length cA, .slice oR rs.length cR]] w) _ _ (by exact ⟨0, o7, 0, _, rfl, Nat.zero_le _, rfl, rfl, hS⟩) ((Sub.cons rfl (Sub.cons rfl (Sub.cons rfl Sub.nil)))) ?_
   clear hS
   rintro e w n ⟨i, o7, l7, c7, rfl, hi, rfl, hl7, hS⟩
   refine cw_seq ?_
   refine cw_seq ?_
   refine cw_region ?_
   refine ol_pure rfl (op_move rfl) ?_
   refine ol_pure rfl (op_move rfl) ?_
   refine ol_pure rfl (op_len sl_49 rfl rfl) ?_
   refine ol_pure rfl (op_lss rfl rfl) ?_
   refine ol_nil ?_
   refine pq_then ?_
   refine cw_cond rfl (fun h64 => ?_) (fun h64 => ?_)
   ·
    skip
    try simp only [decide_eq_true_eq, decide_eq_false_iff_not, Bool.not_eq_true', Bool.not_eq_false', Bool.not_eq_eq_eq_not, Bool.not_true, Bool.not_false] at h64
    have hlt : i < atoms.length := by omega
    have hxi : (x.map Value.bool)[i * 1]? = some (.bool x[i]) := by
      have hx : i < x.length := by omega
      simp [hx]
    have hoi := (hS.news (j := 1) rfl _ _ hxi).1
    have hxe : x[i] = !atB (foundB atoms.length rs m) (i : Int) := by
      rw [← notB_at (by rw [foundB_len]; exact hlt), ← hxx, atB_nat]
      have hx : i < x.length := by omega
      simp [hx]
    have hpl := pickI_len (fun i => !atB (foundB atoms.length rs m) (i : Int)) i
    refine cw_skip ?_
    refine pq_then ?_
    refine cw_seq ?_
    refine cw_block ?_
    refine cw_seq ?_
    refine cw_region ?_
    refine ol_pure rfl (op_move rfl) ?_
    refine ol_pure rfl (op_move rfl) ?_
    refine ol_pure rfl (op_indexN sl_49 rfl rfl (by omega) (by assumption)) ?_
    refine ol_load rfl (op_load1 one_4 rfl (fun w hw => hw.rcell (i := 1) rfl hxi)) hS ?_
    refine ol_nil ?_
    refine pq_then ?_
    refine cw_cond rfl (fun h70 => ?_) (fun h70 => ?_)
    ·
     skip
     try simp only [decide_eq_true_eq, decide_eq_false_iff_not, Bool.not_eq_true', Bool.not_eq_false', Bool.not_eq_eq_eq_not, Bool.not_true, Bool.not_false] at h70
     refine cw_region ?_
     refine ol_pure rfl (op_move rfl) ?_
     refine ol_pure rfl (op_move rfl) ?_
     refine ol_step rfl (op_buildSlice (el := 3) (is := [0]) (xs := [.tmp 72]) (sz := 1) (cs := [.int .i64 (i : Nat)]) hS rfl rfl (fun w => by kernel_rfl) rfl (by decide)) ?_
     clear hS
     rintro _ w ⟨s73, rfl, hS⟩
     refine ol_step rfl (op_append (j := 1) hS sl_28 el_3 rfl rfl rfl rfl rfl rfl (by decide) (hS.news (j := 0) rfl) (by simp [Value.oneCell']) (by omega) (by unfold maxLen; omega)) ?_
     clear hS
     rintro _ w ⟨o7n, c_o7n, rfl, hS⟩; (try simp only [List.nil_append, List.cons_append, List.set] at hS); replace hS := SS.drop [] hS; (try simp only [List.nil_append, List.cons_append] at hS)
     refine ol_pure rfl (op_assign rfl) ?_
     refine ol_nil ?_
     refine pq_in_normal ?_
     refine pq_then ?_
     refine cw_region ?_
     refine ol_pure rfl (op_move rfl) ?_
     refine ol_pure rfl (op_add rfl rfl (by omega) (by omega)) ?_
     refine ol_pure rfl (op_assign rfl) ?_
     refine ol_nil ?_
     refine pq_loop _ _ (by exact ⟨i + 1, o7n, l7 + 1, c_o7n, rfl, by omega, rfl, by rw [pickI_t (by rw [← hxe]; exact h70)]; simp [hl7], by rw [pickI_t (by rw [← hxe]; exact h70)]; simpa using hS⟩) ((Sub.cons rfl (Sub.cons rfl (Sub.cons rfl Sub.nil)))) (by omega)
    ·
     skip
     try simp only [decide_eq_true_eq, decide_eq_false_iff_not, Bool.not_eq_true', Bool.not_eq_false', Bool.not_eq_eq_eq_not, Bool.not_true, Bool.not_false] at h70
     refine cw_skip ?_
     refine pq_in_normal ?_
     refine pq_then ?_
     refine cw_region ?_
     refine ol_pure rfl (op_move rfl) ?_
     refine ol_pure rfl (op_add rfl rfl (by omega) (by omega)) ?_
     refine ol_pure rfl (op_assign rfl) ?_
     refine ol_nil ?_
     refine pq_loop _ _ (by exact ⟨i + 1, o7, l7, c7, rfl, by omega, rfl, by rw [pickI_f (by rw [← hxe]; exact h70)]; exact hl7, by rw [pickI_f (by rw [← hxe]; exact h70)]; exact hS⟩) ((Sub.cons rfl (Sub.cons rfl (Sub.cons rfl Sub.nil)))) (by omega)
   ·
    skip
    try simp only [decide_eq_true_eq, decide_eq_false_iff_not, Bool.not_eq_true', Bool.not_eq_false', Bool.not_eq_eq_eq_not, Bool.not_true, Bool.not_false] at h64
    refine cw_exit ?_
    refine pq_exit ?_
    refine pq_exit ?_
    refine pq_in_exit ?_
    refine pq_then ?_
    refine cw_seq ?_
    refine cw_region ?_
    refine ol_pure rfl (op_move rfl) ?_
    refine ol_pure rfl (op_assign rfl) ?_
    refine ol_nil ?_
    refine pq_then ?_
    refine cw_ret ?_
    refine ret1 rfl rfl ?_
    have hi0 : i = atoms.length := by omega
    subst hi0
    exact hS.rt_row [] (by decide) (Rows.ints (fun x hx => by have := pickI_range hx; omega)) EInt.mono hl7
end Go.Proofs.Ytmkgechdfimfnaa.K
