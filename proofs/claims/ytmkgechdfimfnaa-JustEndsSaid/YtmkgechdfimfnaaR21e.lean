/-
  The document for layer 21: the part that an atom needs; which steps hold.
  No condition but the premises that each theorem names.
-/
import Derived.Test.YtmkgechdfimfnaaR21d
namespace Go.Proofs.Ytmkgechdfimfnaa.K
open Go Go.RowKit
set_option linter.unusedVariables false
set_option linter.unusedSimpArgs false

open Pl

set_option maxRecDepth 100000 in
set_option maxHeartbeats 8000000 in

theorem R21_For_c (G : GH) (w0 : World) (hG : Holds G w0) {α : Type} {E : ER α} (hE : EMono E) (va vr : Value) (atoms : List α) (rs : List Rule) (h1 : RSl 1 E G va atoms) (h2 : RSl 3 ERule G vr rs) (hP : PrOk atoms.length rs) (vs vh : Value) (l : List Step) (hs : List Int) (h5 : RSl 2 EStep G vs l) (h6 : RSl 1 EInt G vh hs) (hL : LeanOk rs l) (hn : l.length ≤ 100000) (hNg : ∀ r ∈ rs, r.neg.length ≤ 1000) (hAt : ∀ s ∈ l, s.atoms.length ≤ 1000) (aa : Int) :
   Calls Try.prog 21 #[.agg #[va, vr], .agg #[vs, vh], .int .i64 aa] w0 (Rt G w0 (fun G v => ∃ us uh, v = .agg #[us, uh] ∧ RSl 2 EStep G us (forI atoms.length rs (l, hs) aa).1 ∧ RSl 1 EInt G uh (forI atoms.length rs (l, hs) aa).2)) := by
 obtain ⟨oA, cA, rfl, hlA, hmA⟩ := h1.elim
 obtain ⟨oR, cR, rfl, hlR, hmR⟩ := h2.elim
 have hle1 := h1.le
 have hle2 := h2.le
 have hPn := hP.n_le
 have hPm := hP.m_le
 obtain ⟨oP, cP, rfl, hlP, hmP⟩ := h5.elim
 have hPle := h5.le
 obtain ⟨oh, ch, rfl, _, _⟩ := h6.elim
 refine enter Try.func21 rfl (N := 90) rfl (Nat.le_of_ble_eq_true rfl) ?_
 have hS := SS.init hG
 refine cw_seq ?_
 refine cw_region ?_
 refine ol_step rfl (op_box hS rfl rfl) ?_
 clear hS
 rintro _ w ⟨b3, rfl, hS⟩
 refine ol_step rfl (op_box hS rfl rfl) ?_
 clear hS
 rintro _ w ⟨b4, rfl, hS⟩
 refine ol_step rfl (op_alloc hS el_34 rfl) ?_
 clear hS
 rintro _ w ⟨res, rfl, hS⟩
 refine ol_nil ?_
 refine pq_then ?_
 refine cw_seq ?_
 refine cw_seq ?_
 refine cw_region ?_
 refine ol_pure rfl (op_move rfl) ?_
 refine ol_pure rfl (op_lss rfl rfl) ?_
 refine ol_pure rfl (op_move rfl) ?_
 refine ol_split (fun h15 => ?_) (fun h15 => ?_)
 ·
  skip
  try simp only [decide_eq_true_eq, decide_eq_false_iff_not, Bool.not_eq_true', Bool.not_eq_false', Bool.not_eq_eq_eq_not, Bool.not_true, Bool.not_false] at h15
  refine ol_guard_no rfl rfl rfl rfl ?_
  refine ol_guard_no rfl rfl rfl rfl ?_
  refine ol_guard_no rfl rfl rfl rfl ?_
  refine ol_guard_no rfl rfl rfl rfl ?_
  refine ol_guard_no rfl rfl rfl rfl ?_
  refine ol_pure rfl (op_pick_t rfl rfl) ?_
  refine ol_nil ?_
  refine pq_then ?_
  refine cw_cond_t rfl ?_
  refine cw_seq ?_
  refine cw_region ?_
  refine ol_pure rfl (op_build (is := []) (xs := []) (v := .agg #[.slice none 0 0, .slice none 0 0]) rfl rfl (fun w => by kernel_rfl)) ?_
  refine ol_step0  (op_storeN (j := 0) hS sz_34 rfl rfl rfl rfl rfl (by simp [Value.oneCell'])) ?_
  clear hS
  rintro _ w hS; (try simp only [List.nil_append, List.cons_append, List.set] at hS)
  refine ol_nil ?_
  refine pq_then ?_
  refine cw_ret ?_
  refine pq_ret ?_
  refine retN rfl agg_34 rfl (by rfl) (fun k u hk => (hS.bcell (i := 0) rfl).trans hk) ?_
  refine hS.rt _ ⟨_, _, rfl, ?_, ?_⟩ <;> rw [forI, if_pos (by omega)] <;> exact RSl.nil _
 ·
  skip
  try simp only [decide_eq_true_eq, decide_eq_false_iff_not, Bool.not_eq_true', Bool.not_eq_false', Bool.not_eq_eq_eq_not, Bool.not_true, Bool.not_false] at h15
  refine ol_guard_pure rfl rfl rfl (op_move rfl) ?_
  refine ol_guard_pure rfl rfl rfl (op_fieldAddr fld_26_0 rfl) ?_
  refine ol_guard_load rfl rfl rfl (op_load1 one_24 rfl (fun w hw => (hw.bcell (i := 2) rfl).trans rfl)) hS ?_
  refine ol_guard_pure rfl rfl rfl (op_len sl_24 rfl rfl) ?_
  refine ol_guard_pure rfl rfl rfl (op_geq rfl rfl) ?_
  refine ol_pure rfl (op_pick_f rfl rfl) ?_
  refine ol_nil ?_
  refine pq_then ?_
  refine cw_cond rfl (fun h21 => ?_) (fun h21 => ?_)
  ·
   skip
   try simp only [decide_eq_true_eq, decide_eq_false_iff_not, Bool.not_eq_true', Bool.not_eq_false', Bool.not_eq_eq_eq_not, Bool.not_true, Bool.not_false] at h21
   refine cw_seq ?_
   refine cw_region ?_
   refine ol_pure rfl (op_build (is := []) (xs := []) (v := .agg #[.slice none 0 0, .slice none 0 0]) rfl rfl (fun w => by kernel_rfl)) ?_
   refine ol_step0  (op_storeN (j := 0) hS sz_34 rfl rfl rfl rfl rfl (by simp [Value.oneCell'])) ?_
   clear hS
   rintro _ w hS; (try simp only [List.nil_append, List.cons_append, List.set] at hS)
   refine ol_nil ?_
   refine pq_then ?_
   refine cw_ret ?_
   refine pq_ret ?_
   refine retN rfl agg_34 rfl (by rfl) (fun k u hk => (hS.bcell (i := 0) rfl).trans hk) ?_
   refine hS.rt _ ⟨_, _, rfl, ?_, ?_⟩ <;> rw [forI, if_pos (by omega)] <;> exact RSl.nil _
  ·
   skip
   try simp only [decide_eq_true_eq, decide_eq_false_iff_not, Bool.not_eq_true', Bool.not_eq_false', Bool.not_eq_eq_eq_not, Bool.not_true, Bool.not_false] at h21
   have haa : 0 ≤ aa ∧ aa < atoms.length := by omega
   refine cw_skip ?_
   refine pq_then ?_
   refine cw_seq ?_
   refine cw_seq ?_
   refine cw_region ?_
   refine ol_load rfl (op_loadN agg_34 rfl (by rfl) (fun w hw k u hk => (hw.bcell (i := 1) rfl).trans hk)) hS ?_
   refine ol_pure rfl (op_move rfl) ?_
   refine ol_step rfl (op_call_sc hS cf_29 rfl (R21_By_c G _ hS.hold _ _ l h5 ⟨_, _, _, rfl⟩ aa)) ?_
   clear hS
   rintro _ w ⟨rfl, hS⟩
   refine ol_pure rfl (op_lss rfl rfl) ?_
   refine ol_nil ?_
   refine pq_then ?_
   refine cw_cond rfl (fun h26 => ?_) (fun h26 => ?_)
   ·
    skip
    try simp only [decide_eq_true_eq, decide_eq_false_iff_not, Bool.not_eq_true', Bool.not_eq_false', Bool.not_eq_eq_eq_not, Bool.not_true, Bool.not_false] at h26
    refine cw_seq ?_
    refine cw_region ?_
    refine ol_load rfl (op_loadN agg_34 rfl (by rfl) (fun w hw k u hk => (hw.bcell (i := 1) rfl).trans hk)) hS ?_
    refine ol_step0  (op_storeN (j := 0) hS sz_34 rfl rfl rfl rfl rfl (by simp [Value.oneCell'])) ?_
    clear hS
    rintro _ w hS; (try simp only [List.nil_append, List.cons_append, List.set] at hS)
    refine ol_nil ?_
    refine pq_then ?_
    refine cw_ret ?_
    refine pq_ret ?_
    refine retN rfl agg_34 rfl (by rfl) (fun k u hk => (hS.bcell (i := 0) rfl).trans hk) ?_
    refine hS.rt _ ⟨_, _, rfl, ?_, ?_⟩ <;> rw [forI, if_neg (by omega), if_pos (by omega)]
    · exact h5
    · exact h6
   ·
    skip
    try simp only [decide_eq_true_eq, decide_eq_false_iff_not, Bool.not_eq_true', Bool.not_eq_false', Bool.not_eq_eq_eq_not, Bool.not_true, Bool.not_false] at h26
    have hfo : forI atoms.length rs (l, hs) aa = (partI l (needI atoms.length rs l aa), []) := by rw [forI, if_neg (by omega), if_neg (by omega)]
    obtain ⟨by0, hby0⟩ := Int.eq_ofNat_of_zero_le (show 0 ≤ byI l aa by omega)
    have hbyl := byI_len l aa
    refine cw_skip ?_
    refine pq_then ?_
    refine cw_seq ?_
    refine cw_region ?_
    refine ol_pure rfl (op_fieldAddr fld_34_0 rfl) ?_
    refine ol_load rfl (op_load1 one_32 rfl (fun w hw => (hw.bcell (i := 1) rfl).trans rfl)) hS ?_
    refine ol_pure rfl (op_len sl_32 rfl rfl) ?_
    refine ol_step rfl (op_makeSlice (n := l.length) hS sl_49 el_4 rfl rfl rfl (by omega) (by unfold maxLen; omega)) ?_
    clear hS
    rintro _ w ⟨on, rfl, hS⟩
    refine ol_pure rfl (op_assign rfl) ?_
    refine ol_nil ?_
    refine pq_then ?_
    refine cw_seq ?_
    rw [show List.replicate l.length (Value.bool false) = (List.replicate l.length false).map Value.bool from by rw [List.map_replicate]] at hS
    have hnl : (List.replicate l.length false).length = l.length := by simp
    have hz0 : ((List.replicate l.length false).map Value.bool)[by0 * 1]? = some (.bool false) := by rw [List.map_replicate, Nat.mul_one, List.getElem?_replicate, if_pos (by omega)]
    have hoN0 := (hS.news (j := 0) rfl _ _ hz0).1
    refine cw_region ?_
    refine ol_pure rfl (op_move rfl) ?_
    refine ol_load rfl (op_loadN agg_34 rfl (by rfl) (fun w hw k u hk => (hw.bcell (i := 2) rfl).trans hk)) hS ?_
    refine ol_pure rfl (op_move rfl) ?_
    refine ol_step rfl (op_call_sc hS cf_29 rfl (R21_By_c G _ hS.hold _ _ l h5 ⟨_, _, _, rfl⟩ aa)) ?_
    clear hS
    rintro _ w ⟨rfl, hS⟩
    refine ol_pure rfl (op_val (op_indexAddr sl_49 rfl rfl (by omega) (by omega) hoN0) (v' := .pointer (some (elA on (by0 * 1)))) (by rw [hby0]; rfl)) ?_
    refine ol_step0  (op_storeR (j := 0) (k := by0 * 1) hS sz_4 rfl rfl rfl rfl (by simp; omega)) ?_
    clear hS
    rintro _ w hS; (try simp only [List.nil_append, List.cons_append, List.set] at hS)
    refine ol_nil ?_
    refine pq_then ?_
    refine cw_seq ?_
    refine cw_seq ?_
    refine cw_region ?_
    refine ol_pure rfl (op_fieldAddr fld_34_0 rfl) ?_
    refine ol_load rfl (op_load1 one_32 rfl (fun w hw => (hw.bcell (i := 2) rfl).trans rfl)) hS ?_
    refine ol_pure rfl (op_len sl_32 rfl rfl) ?_
    refine ol_pure rfl (op_sub rfl rfl (by omega) (by omega)) ?_
    refine ol_pure rfl (op_assign rfl) ?_
    refine ol_nil ?_
    refine pq_then ?_
    refine cw_block ?_
    refine cw_loop (fun e w n => ∃ (k : Nat) (nd : List Bool) (Gk : GH), e = [(3, .pointer (some ⟨b3, 0, none⟩)), (4, .pointer (some ⟨b4, 0, none⟩)), (6, .pointer (some ⟨res, 0, none⟩)), (7, .slice on l.length l.length), (8, .int .i64 ((k : Nat) - 1))] ∧ k ≤ l.length ∧ k = n ∧ nd.length = l.length ∧ needI atoms.length rs l aa = forN rs l (knownI atoms.length l) k nd ∧ Le G Gk ∧ SS G w0 Gk [.row on l.length l.length 4 1 (nd.map Value.bool), .blk res 34 [.slice none 0 0, .slice none 0 0], .blk b4 34 [.slice oP l.length cP, .slice oh hs.length ch], .blk b3 26 [.slice oA atoms.length cA, .slice oR rs.length cR]] w) _ _ (by exact ⟨l.length, markI l (List.replicate l.length false) [aa], G, rfl, Nat.le_refl _, rfl, by rw [markI_len]; exact hnl, rfl, Le.refl _, by rw [show markI l (List.replicate l.length false) [aa] = (List.replicate l.length false).set by0 true from by show (List.replicate l.length false).set (byI l aa).toNat true = _; rw [hby0]; rfl, List.map_set]; rw [Nat.mul_one] at hS; exact hS⟩) ((Sub.cons rfl (Sub.cons rfl (Sub.cons rfl (Sub.cons rfl (Sub.cons rfl Sub.nil)))))) ?_
    clear hnl
    clear hS
    rintro e w n ⟨k, nd, Gk, rfl, hk, rfl, hnl, hne, hlk, hS⟩
    refine cw_seq ?_
    refine cw_seq ?_
    refine cw_region ?_
    refine ol_pure rfl (op_move rfl) ?_
    refine ol_pure rfl (op_geq rfl rfl) ?_
    refine ol_nil ?_
    refine pq_then ?_
    refine cw_cond rfl (fun h42 => ?_) (fun h42 => ?_)
    ·
     skip
     try simp only [decide_eq_true_eq, decide_eq_false_iff_not, Bool.not_eq_true', Bool.not_eq_false', Bool.not_eq_eq_eq_not, Bool.not_true, Bool.not_false] at h42
     obtain ⟨i, rfl⟩ : ∃ i, k = i + 1 := ⟨k - 1, by omega⟩
     rw [show ((i + 1 : Nat) : Int) - 1 = (i : Nat) from by omega]
     have hlt : i < l.length := by omega
     have hcm : (nd.map Value.bool)[i * 1]? = some (.bool nd[i]) := by simp [show i < nd.length by omega]
     have hoN := (hS.news (j := 0) rfl _ _ hcm).1
     have hgd : nd.getD i false = nd[i] := by simp [show i < nd.length by omega]
     refine cw_skip ?_
     refine pq_then ?_
     refine cw_seq ?_
     refine cw_block ?_
     refine cw_seq ?_
     refine cw_seq ?_
     refine cw_region ?_
     refine ol_pure rfl (op_move rfl) ?_
     refine ol_pure rfl (op_move rfl) ?_
     refine ol_pure rfl (op_indexN sl_49 rfl rfl (by omega) hoN) ?_
     refine ol_load rfl (op_load1 one_4 rfl (fun w hw => hw.rcell (i := 0) rfl hcm)) hS ?_
     refine ol_pure rfl (op_not rfl) ?_
     refine ol_nil ?_
     refine pq_then ?_
     refine cw_cond rfl (fun h49 => ?_) (fun h49 => ?_)
     ·
      skip
      try simp only [decide_eq_true_eq, decide_eq_false_iff_not, Bool.not_eq_true', Bool.not_eq_false', Bool.not_eq_eq_eq_not, Bool.not_true, Bool.not_false] at h49
      have hskip := forN_skip (rs := rs) (m := (knownI atoms.length l)) hlt (hgd.trans h49)
      refine cw_exit ?_
      refine pq_exit ?_
      refine pq_in_exit ?_
      refine pq_then ?_
      refine cw_region ?_
      refine ol_pure rfl (op_move rfl) ?_
      refine ol_pure rfl (op_sub rfl rfl (by omega) (by omega)) ?_
      refine ol_pure rfl (op_assign rfl) ?_
      refine ol_nil ?_
      refine pq_loop _ _ (by exact ⟨i, nd, Gk, rfl, by omega, rfl, hnl, by rw [hne, hskip], hlk, hS⟩) ((Sub.cons rfl (Sub.cons rfl (Sub.cons rfl (Sub.cons rfl (Sub.cons rfl Sub.nil)))))) (by omega)
     ·
      skip
      try simp only [decide_eq_true_eq, decide_eq_false_iff_not, Bool.not_eq_true', Bool.not_eq_false', Bool.not_eq_eq_eq_not, Bool.not_true, Bool.not_false] at h49
      have hdo := forN_do (rs := rs) (m := (knownI atoms.length l)) hlt (hgd.trans h49)
      refine cw_skip ?_
      refine pq_then ?_
      refine cw_seq ?_
      refine cw_region ?_
      refine ol_load rfl (op_loadN agg_26 rfl (by rfl) (fun w hw k u hk => (hw.bcell (i := 3) rfl).trans hk)) hS ?_
      refine ol_load rfl (op_loadN agg_34 rfl (by rfl) (fun w hw k u hk => (hw.bcell (i := 2) rfl).trans hk)) hS ?_
      refine ol_pure rfl (op_move rfl) ?_
      refine ol_step rfl (op_call_fr hS cf_53 rfl (R21_leans_c _ _ hS.hold hE _ _ atoms rs (h1.mono hE hlk) (h2.mono ERule.mono hlk) hP _ _ l hs (h5.mono EStep.mono hlk) (h6.mono EInt.mono hlk) i hlt hL hNg hAt)) ?_
      clear hS
      rintro v53 w ⟨F53, Gl, hR53, hF53, hf53, hl53, hS⟩
      obtain ⟨o53, c53, rfl, _, _⟩ := hR53.elim
      have hLn := hR53.mono EInt.mono hf53
      have hLle := hLn.le
      refine ol_pure rfl (op_assign rfl) ?_
      refine ol_nil ?_
      refine pq_then ?_
      refine cw_seq ?_
      refine cw_region ?_
      refine ol_pure rfl (op_assign rfl) ?_
      refine ol_nil ?_
      refine pq_then ?_
      refine cw_block ?_
      refine cw_loop (fun e w n => ∃ (j : Nat), e = [(3, .pointer (some ⟨b3, 0, none⟩)), (4, .pointer (some ⟨b4, 0, none⟩)), (6, .pointer (some ⟨res, 0, none⟩)), (7, .slice on l.length l.length), (8, .int .i64 (i : Nat)), (9, .slice o53 (leansI rs l (knownI atoms.length l) i l[i]).length c53), (10, .int .i64 (j : Nat))] ∧ j ≤ (leansI rs l (knownI atoms.length l) i l[i]).length ∧ n = (leansI rs l (knownI atoms.length l) i l[i]).length - j ∧ SS G w0 Gl [.row on l.length l.length 4 1 ((markI l nd ((leansI rs l (knownI atoms.length l) i l[i]).take j)).map Value.bool), .blk res 34 [.slice none 0 0, .slice none 0 0], .blk b4 34 [.slice oP l.length cP, .slice oh hs.length ch], .blk b3 26 [.slice oA atoms.length cA, .slice oR rs.length cR]] w) _ _ (by exact ⟨0, rfl, Nat.zero_le _, rfl, hS⟩) ((Sub.cons rfl (Sub.cons rfl (Sub.cons rfl (Sub.cons rfl (Sub.cons rfl (Sub.cons rfl (Sub.cons rfl Sub.nil)))))))) ?_
      clear hS
      rintro e w n ⟨j, rfl, hj, rfl, hS⟩
      refine cw_seq ?_
      refine cw_seq ?_
      refine cw_region ?_
      refine ol_pure rfl (op_move rfl) ?_
      refine ol_pure rfl (op_move rfl) ?_
      refine ol_pure rfl (op_len sl_28 rfl rfl) ?_
      refine ol_pure rfl (op_lss rfl rfl) ?_
      refine ol_nil ?_
      refine pq_then ?_
      refine cw_cond rfl (fun h57 => ?_) (fun h57 => ?_)
      ·
       skip
       try simp only [decide_eq_true_eq, decide_eq_false_iff_not, Bool.not_eq_true', Bool.not_eq_false', Bool.not_eq_eq_eq_not, Bool.not_true, Bool.not_false] at h57
       have hjl : j < (leansI rs l (knownI atoms.length l) i l[i]).length := by omega
       obtain ⟨hoL, hcL, hbL⟩ := hLn.int hjl
       have hlt2 := leans_told (m := (knownI atoms.length l)) hL hlt (List.getElem_mem hjl)
       obtain ⟨y, hy⟩ := Int.eq_ofNat_of_zero_le hlt2
       have hyl := byI_len l (leansI rs l (knownI atoms.length l) i l[i])[j]
       have hcm2 : ((markI l nd ((leansI rs l (knownI atoms.length l) i l[i]).take j)).map Value.bool)[y * 1]? = some (.bool ((markI l nd ((leansI rs l (knownI atoms.length l) i l[i]).take j)).getD y false)) := by
         have : y < (markI l nd ((leansI rs l (knownI atoms.length l) i l[i]).take j)).length := by rw [markI_len]; omega
         simp [this]
       have hoY := (hS.news (j := 0) rfl _ _ hcm2).1
       refine cw_skip ?_
       refine pq_then ?_
       refine cw_seq ?_
       refine cw_block ?_
       replace hS := hS.perm (List.perm_append_comm (l₁ := [_, _]) (l₂ := [_, _]))
       (try simp only [List.cons_append, List.nil_append] at hS)
       refine al_start' hS (hS.take 1) (by kernel_rfl) rfl (fun w hS hT => ?_)
       refine al_take (i := 0) rfl (by kernel_rfl) (by kernel_rfl) (by kernel_rfl) rfl (fun _ _ _ h => h) (op_move rfl) rfl ?_
       refine al_load (i := 1) rfl (by kernel_rfl) (by kernel_rfl) (by kernel_rfl) rfl (fun _ _ _ h => h) (by exact op_loadN agg_34 rfl (by rfl) (fun w hw k u hk => (hw.bcell (i := 0) rfl).trans hk)) rfl hT ?_
       refine al_take (i := 2) rfl (by kernel_rfl) (by kernel_rfl) (by kernel_rfl) rfl (fun _ _ _ h => h) (op_move rfl) rfl ?_
       refine al_take (i := 3) rfl (by kernel_rfl) (by kernel_rfl) (by kernel_rfl) rfl (fun _ _ _ h => h) (op_move rfl) rfl ?_
       refine al_take (i := 4) rfl (by kernel_rfl) (by kernel_rfl) (by kernel_rfl) rfl (fun _ _ _ h => h) (op_indexN sl_28 rfl rfl (by omega) hoL) rfl ?_
       refine al_load (i := 5) rfl (by kernel_rfl) (by kernel_rfl) (by kernel_rfl) rfl (fun _ _ _ h => h) (by exact op_load1 one_3 rfl (fun w hw => hw.gcell hcL)) rfl hT ?_
       refine al_step (i := 6) rfl (by kernel_rfl) rfl (op_call_sc hS cf_29 rfl (R21_By_c Gl _ hS.hold _ _ l ((h5.mono EStep.mono hlk).mono EStep.mono hl53) ⟨_, _, _, rfl⟩ (leansI rs l (knownI atoms.length l) i l[i])[j])) ?_
       clear hS
       rintro _ w ⟨rfl, hS⟩
       refine ⟨no_need (by kernel_rfl), ?_⟩
       refine al_take (i := 7) rfl (by kernel_rfl) (by kernel_rfl) (by kernel_rfl) rfl (fun _ _ _ h => h) (op_val (op_indexAddr (n := l.length) (i := byI l (leansI rs l (knownI atoms.length l) i l[i])[j]) sl_49 rfl rfl (by omega) (by omega) hoY) (v' := .pointer (some (elA on (y * 1)))) (by rw [hy]; rfl)) rfl ?_
       refine al_step0 (i := 8) rfl (by kernel_rfl) (op_storeR (j := 2) (k := y * 1) hS sz_4 rfl rfl rfl rfl (by simp [markI_len]; omega)) ?_
       clear hS
       rintro _ w hS; (try simp only [List.nil_append, List.cons_append, List.set] at hS)
       replace hS := hS.perm (List.perm_append_comm (l₁ := [_, _]) (l₂ := [_, _]))
       (try simp only [List.cons_append, List.nil_append] at hS)
       refine ⟨no_need (by kernel_rfl), ?_⟩
       refine al_done (by kernel_rfl) ?_
       refine pq_in_normal ?_
       refine pq_then ?_
       refine cw_region ?_
       refine ol_pure rfl (op_move rfl) ?_
       refine ol_pure rfl (op_add rfl rfl (by omega) (by omega)) ?_
       refine ol_pure rfl (op_assign rfl) ?_
       refine ol_nil ?_
       refine pq_loop _ _ (by exact ⟨j + 1, rfl, by omega, rfl, by rw [markI_succ _ _ _ hjl, hy, List.map_set]; rw [Nat.mul_one] at hS; exact hS⟩) ((Sub.cons rfl (Sub.cons rfl (Sub.cons rfl (Sub.cons rfl (Sub.cons rfl (Sub.cons rfl (Sub.cons rfl Sub.nil)))))))) (by omega)
      ·
       skip
       try simp only [decide_eq_true_eq, decide_eq_false_iff_not, Bool.not_eq_true', Bool.not_eq_false', Bool.not_eq_eq_eq_not, Bool.not_true, Bool.not_false] at h57
       rw [List.take_of_length_le (show (leansI rs l (knownI atoms.length l) i l[i]).length ≤ j by omega)] at hS
       refine cw_exit ?_
       refine pq_exit ?_
       refine pq_exit ?_
       refine pq_in_exit ?_
       refine pq_in_normal ?_
       refine pq_then ?_
       refine cw_region ?_
       refine ol_pure rfl (op_move rfl) ?_
       refine ol_pure rfl (op_sub rfl rfl (by omega) (by omega)) ?_
       refine ol_pure rfl (op_assign rfl) ?_
       refine ol_nil ?_
       refine pq_loop _ _ (by exact ⟨i, _, Gl, rfl, by omega, rfl, by rw [markI_len]; exact hnl, by rw [hne, hdo], hlk.trans hl53, hS⟩) ((Sub.cons rfl (Sub.cons rfl (Sub.cons rfl (Sub.cons rfl (Sub.cons rfl Sub.nil)))))) (by omega)
    ·
     skip
     try simp only [decide_eq_true_eq, decide_eq_false_iff_not, Bool.not_eq_true', Bool.not_eq_false', Bool.not_eq_eq_eq_not, Bool.not_true, Bool.not_false] at h42
     refine cw_exit ?_
     refine pq_exit ?_
     refine pq_exit ?_
     refine pq_in_exit ?_
     refine pq_then ?_
     refine cw_seq ?_
     refine cw_region ?_
     refine ol_pure rfl (op_build (is := []) (xs := []) (v := .agg #[.slice none 0 0, .slice none 0 0]) rfl rfl (fun w => by kernel_rfl)) ?_
     refine ol_step rfl (op_alloc hS el_34 rfl) ?_
     clear hS
     rintro _ w ⟨b11, rfl, hS⟩
     refine ol_step0  (op_storeN (j := 0) hS sz_34 rfl rfl rfl rfl rfl (by simp [Value.oneCell'])) ?_
     clear hS
     rintro _ w hS; (try simp only [List.nil_append, List.cons_append, List.set] at hS)
     refine ol_nil ?_
     refine pq_then ?_
     refine cw_seq ?_
     refine cw_seq ?_
     refine cw_region ?_
     refine ol_pure rfl (op_assign rfl) ?_
     refine ol_nil ?_
     refine pq_then ?_
     refine cw_block ?_
     replace hS := SS.ins [_] hS 37 2
     replace hS := hS.perm (List.perm_middle (l₁ := [_, _, _, _]))
     (try simp only [List.cons_append, List.nil_append] at hS)
     refine cw_loop (fun e w n => ∃ (i : Nat) (os : Option Addr) (cs : Nat) (us : List Value), e = [(4, .pointer (some ⟨b4, 0, none⟩)), (6, .pointer (some ⟨res, 0, none⟩)), (7, .slice on l.length l.length), (11, .pointer (some ⟨b11, 0, none⟩)), (12, .int .i64 (i : Nat))] ∧ i ≤ l.length ∧ n = l.length - i ∧ Rows 2 EStep Gk us (partI (l.take i) (nd.take i)) ∧ SS G w0 Gk [.blk b4 34 [.slice oP l.length cP, .slice oh hs.length ch], .blk b11 34 [.slice os (partI (l.take i) (nd.take i)).length cs, .slice none 0 0], .row os (partI (l.take i) (nd.take i)).length cs 37 2 us, .row on l.length l.length 4 1 (nd.map Value.bool), .blk res 34 [.slice none 0 0, .slice none 0 0], .blk b3 26 [.slice oA atoms.length cA, .slice oR rs.length cR]] w) _ _ (by exact ⟨0, none, 0, [], rfl, Nat.zero_le _, rfl, Rows.nil _, hS⟩) ((Sub.cons rfl (Sub.cons rfl (Sub.cons rfl (Sub.cons rfl (Sub.cons rfl Sub.nil)))))) ?_
     clear hS
     rintro e w n ⟨i, os, cs, us, rfl, hi, rfl, hus, hS⟩
     refine cw_seq ?_
     refine cw_seq ?_
     refine cw_region ?_
     refine ol_pure rfl (op_move rfl) ?_
     refine ol_pure rfl (op_move rfl) ?_
     refine ol_pure rfl (op_len sl_49 rfl rfl) ?_
     refine ol_pure rfl (op_lss rfl rfl) ?_
     refine ol_nil ?_
     refine pq_then ?_
     refine cw_cond rfl (fun h72 => ?_) (fun h72 => ?_)
     ·
      skip
      try simp only [decide_eq_true_eq, decide_eq_false_iff_not, Bool.not_eq_true', Bool.not_eq_false', Bool.not_eq_eq_eq_not, Bool.not_true, Bool.not_false] at h72
      have hlt : i < l.length := by omega
      obtain ⟨hoP, _, _, ⟨vk, rfl, hvk, hrk⟩, hcells⟩ := h5.el hlt
      obtain ⟨ov, cv, rfl, _, _⟩ := hvk.elim
      have hndl : i < nd.length := by omega
      have hcm : (nd.map Value.bool)[i * 1]? = some (.bool nd[i]) := by simp [hndl]
      have hoN := (hS.news (j := 3) rfl _ _ hcm).1
      have hps := partI_succ hlt hndl
      have hpl := partI_le (l.take i) (nd.take i)
      simp only [List.length_take] at hpl
      refine cw_skip ?_
      refine pq_then ?_
      refine cw_seq ?_
      refine cw_block ?_
      refine cw_seq ?_
      refine cw_region ?_
      refine ol_pure rfl (op_move rfl) ?_
      refine ol_pure rfl (op_move rfl) ?_
      refine ol_pure rfl (op_indexN sl_49 rfl rfl (by omega) hoN) ?_
      refine ol_load rfl (op_load1 one_4 rfl (fun w hw => hw.rcell (i := 3) rfl hcm)) hS ?_
      refine ol_nil ?_
      refine pq_then ?_
      refine cw_cond rfl (fun h78 => ?_) (fun h78 => ?_)
      ·
       skip
       try simp only [decide_eq_true_eq, decide_eq_false_iff_not, Bool.not_eq_true', Bool.not_eq_false', Bool.not_eq_eq_eq_not, Bool.not_true, Bool.not_false] at h78
       refine al_start' hS (hS.take 2) (by kernel_rfl) rfl (fun w hS hT => ?_)
       refine al_take (i := 0) rfl (by kernel_rfl) (by kernel_rfl) (by kernel_rfl) rfl (fun _ _ _ h => h) (op_fieldAddr fld_34_0 rfl) rfl ?_
       refine al_load (i := 1) rfl (by kernel_rfl) (by kernel_rfl) (by kernel_rfl) rfl (fun _ _ _ h => h) (by exact op_load1 one_32 rfl (fun w hw => (hw.bcell (i := 1) rfl).trans rfl)) rfl hT ?_
       refine al_take (i := 2) rfl (by kernel_rfl) (by kernel_rfl) (by kernel_rfl) rfl (fun _ _ _ h => h) (op_fieldAddr fld_34_0 rfl) rfl ?_
       refine al_load (i := 3) rfl (by kernel_rfl) (by kernel_rfl) (by kernel_rfl) rfl (fun _ _ _ h => h) (by exact op_load1 one_32 rfl (fun w hw => (hw.bcell (i := 0) rfl).trans rfl)) rfl hT ?_
       refine al_take (i := 4) rfl (by kernel_rfl) (by kernel_rfl) (by kernel_rfl) rfl (fun _ _ _ h => h) (op_move rfl) rfl ?_
       refine al_take (i := 5) rfl (by kernel_rfl) (by kernel_rfl) (by kernel_rfl) rfl (fun _ _ _ h => h) (op_indexN sl_32 rfl rfl (by omega) hoP) rfl ?_
       refine al_load (i := 6) rfl (by kernel_rfl) (by kernel_rfl) (by kernel_rfl) rfl (fun _ _ _ h => h) (by exact op_loadN agg_37 rfl (by rfl) (fun w hw k u hk => hw.gcell (hlk.cell (hcells _ u hk)))) rfl hT ?_
       refine al_step (i := 7) rfl (by kernel_rfl) rfl (op_buildSlice (el := 37) (is := [0]) (xs := [.tmp 85]) (sz := 2) (cs := [.int .i64 l[i].rule, .slice ov l[i].atoms.length cv]) hS rfl rfl (fun w => by kernel_rfl) rfl (by decide)) ?_
       clear hS
       rintro _ w ⟨s86, rfl, hS⟩
       have hT := hT.back hS (by first | exact Le.refl _ | assumption) (fun x hx => by try simp only [List.take_succ_cons, List.take_zero, List.mem_cons, List.not_mem_nil, or_false] at hx; (rcases hx with rfl | rfl) <;> simp)
       refine ⟨fun _ _ => hT, ?_⟩
       refine al_step (i := 8) rfl (by kernel_rfl) rfl (op_append (j := 3) hS sl_32 el_37 rfl rfl rfl rfl rfl rfl (by decide) (hS.news (j := 0) rfl) (by simp [Value.oneCell']) (by omega) (by unfold maxLen; omega)) ?_
       clear hS
       rintro _ w ⟨osn, c_osn, rfl, hS⟩; (try simp only [List.nil_append, List.cons_append, List.set] at hS); replace hS := SS.drop [] hS; (try simp only [List.nil_append, List.cons_append] at hS)
       have hT := hT.back hS (by first | exact Le.refl _ | assumption) (fun x hx => by try simp only [List.take_succ_cons, List.take_zero, List.mem_cons, List.not_mem_nil, or_false] at hx; (rcases hx with rfl | rfl) <;> simp)
       refine ⟨fun _ _ => hT, ?_⟩
       refine al_take (i := 9) rfl (by kernel_rfl) (by kernel_rfl) (by kernel_rfl) rfl (fun _ _ _ h => h) (op_fieldAddr fld_34_0 rfl) rfl ?_
       refine al_step0 (i := 10) rfl (by kernel_rfl) (op_storeB (j := 1) (k := 0) hS sz_32 rfl rfl rfl rfl (by simp)) ?_
       clear hS
       rintro _ w hS; (try simp only [List.nil_append, List.cons_append, List.set] at hS)
       refine ⟨no_need (by kernel_rfl), ?_⟩
       refine al_done (by kernel_rfl) ?_
       refine pq_in_normal ?_
       refine pq_then ?_
       refine cw_region ?_
       refine ol_pure rfl (op_move rfl) ?_
       refine ol_pure rfl (op_add rfl rfl (by omega) (by omega)) ?_
       refine ol_pure rfl (op_assign rfl) ?_
       refine ol_nil ?_
       refine pq_loop _ _ (by exact (by
           rw [if_pos h78] at hps
           exact ⟨i + 1, osn, c_osn, _, rfl, by omega, rfl, by rw [hps]; exact hus.snoc (x := l[i]) rfl ⟨_, rfl, hvk.mono EInt.mono hlk, hrk⟩, by rw [hps, List.length_append]; exact hS⟩)) ((Sub.cons rfl (Sub.cons rfl (Sub.cons rfl (Sub.cons rfl (Sub.cons rfl Sub.nil)))))) (by omega)
      ·
       skip
       try simp only [decide_eq_true_eq, decide_eq_false_iff_not, Bool.not_eq_true', Bool.not_eq_false', Bool.not_eq_eq_eq_not, Bool.not_true, Bool.not_false] at h78
       refine cw_skip ?_
       refine pq_in_normal ?_
       refine pq_then ?_
       refine cw_region ?_
       refine ol_pure rfl (op_move rfl) ?_
       refine ol_pure rfl (op_add rfl rfl (by omega) (by omega)) ?_
       refine ol_pure rfl (op_assign rfl) ?_
       refine ol_nil ?_
       refine pq_loop _ _ (by exact (by
           rw [if_neg (by rw [h78]; decide), List.append_nil] at hps
           exact ⟨i + 1, os, cs, us, rfl, by omega, rfl, by rw [hps]; exact hus, by rw [hps]; exact hS⟩)) ((Sub.cons rfl (Sub.cons rfl (Sub.cons rfl (Sub.cons rfl (Sub.cons rfl Sub.nil)))))) (by omega)
     ·
      skip
      try simp only [decide_eq_true_eq, decide_eq_false_iff_not, Bool.not_eq_true', Bool.not_eq_false', Bool.not_eq_eq_eq_not, Bool.not_true, Bool.not_false] at h72
      refine cw_exit ?_
      refine pq_exit ?_
      refine pq_exit ?_
      refine pq_in_exit ?_
      refine pq_then ?_
      refine cw_seq ?_
      refine cw_region ?_
      refine ol_load rfl (op_loadN agg_34 rfl (by rfl) (fun w hw k u hk => (hw.bcell (i := 1) rfl).trans hk)) hS ?_
      refine ol_step0  (op_storeN (j := 4) hS sz_34 rfl rfl rfl rfl rfl (by simp [Value.oneCell'])) ?_
      clear hS
      rintro _ w hS; (try simp only [List.nil_append, List.cons_append, List.set] at hS)
      refine ol_nil ?_
      refine pq_then ?_
      refine cw_ret ?_
      refine retN rfl agg_34 rfl (by rfl) (fun k u hk => (hS.bcell (i := 4) rfl).trans hk) ?_
      have hk0 : k = 0 := by omega
      subst hk0
      have hnd : needI atoms.length rs l aa = nd := hne
      rw [List.take_of_length_le (show l.length ≤ i by omega), List.take_of_length_le (show nd.length ≤ i by omega)] at hS hus
      obtain ⟨G7, hl7, hS7, hR7⟩ := SS.give' (partI l nd) [_, _] EStep.mono hS (by decide) hus rfl
      refine hS7.rt _ ⟨_, _, rfl, ?_, ?_⟩
      · rw [hfo, hnd, List.take_of_length_le (show l.length ≤ i by omega), List.take_of_length_le (show nd.length ≤ i by omega)]
        exact hR7
      · rw [hfo]
        exact RSl.nil _
set_option maxRecDepth 100000 in
set_option maxHeartbeats 4000000 in

theorem R21_Fits_c (G : GH) (w0 : World) (hG : Holds G w0) {α : Type} {E : ER α} (hE : EMono E) (va vr : Value) (atoms : List α) (rs : List Rule) (h1 : RSl 1 E G va atoms) (h2 : RSl 3 ERule G vr rs) (hP : PrOk atoms.length rs) (vm : Value) (m : List Int) (h3 : RSl 1 EInt G vm m) (hm : m.length = atoms.length) (s : Step) (u : Value) (h4 : RSl 1 EInt G u s.atoms) (hsb : -9223372036854775808 ≤ s.rule ∧ s.rule ≤ 9223372036854775807)  :
   Calls Try.prog 24 #[.agg #[va, vr], vm, .agg #[.int .i64 s.rule, u]] w0 (Sc w0 (.bool (stepOk rs m s))) := by
 obtain ⟨oA, cA, rfl, hlA, hmA⟩ := h1.elim
 obtain ⟨oR, cR, rfl, hlR, hmR⟩ := h2.elim
 have hle1 := h1.le
 have hle2 := h2.le
 have hPn := hP.n_le
 have hPm := hP.m_le
 obtain ⟨oM, cM, rfl, hlM, hmM⟩ := h3.elim
 have hMle := h3.le
 obtain ⟨oS, cS, rfl, hlS, hmS⟩ := h4.elim
 have hSle := h4.le
 refine enter Try.func24 rfl (N := 174) rfl (Nat.le_of_ble_eq_true rfl) ?_
 have hS := SS.init hG
 refine cw_seq ?_
 refine cw_region ?_
 refine ol_step rfl (op_box hS rfl rfl) ?_
 clear hS
 rintro _ w ⟨b3, rfl, hS⟩
 refine ol_step rfl (op_box hS rfl rfl) ?_
 clear hS
 rintro _ w ⟨b5, rfl, hS⟩
 refine ol_pure rfl (op_assign rfl) ?_
 refine ol_nil ?_
 refine pq_then ?_
 refine cw_seq ?_
 refine cw_seq ?_
 refine cw_region ?_
 refine ol_pure rfl (op_fieldAddr fld_37_0 rfl) ?_
 refine ol_load rfl (op_load1 one_3 rfl (fun w hw => (hw.bcell (i := 0) rfl).trans rfl)) hS ?_
 refine ol_pure rfl (op_fieldAddr fld_26_1 rfl) ?_
 refine ol_load rfl (op_load1 one_22 rfl (fun w hw => (hw.bcell (i := 1) rfl).trans rfl)) hS ?_
 refine ol_pure rfl (op_len sl_22 rfl rfl) ?_
 refine ol_pure rfl (op_geq rfl rfl) ?_
 refine ol_pure rfl (op_move rfl) ?_
 refine ol_split (fun h21 => ?_) (fun h21 => ?_)
 ·
  skip
  try simp only [decide_eq_true_eq, decide_eq_false_iff_not, Bool.not_eq_true', Bool.not_eq_false', Bool.not_eq_eq_eq_not, Bool.not_true, Bool.not_false] at h21
  refine ol_guard_no rfl rfl rfl rfl ?_
  refine ol_guard_no rfl rfl rfl rfl ?_
  refine ol_guard_no rfl rfl rfl rfl ?_
  refine ol_guard_no rfl rfl rfl rfl ?_
  refine ol_pure rfl (op_pick_t rfl rfl) ?_
  refine ol_nil ?_
  refine pq_then ?_
  refine cw_cond_t rfl ?_
  refine cw_seq ?_
  refine cw_region ?_
  refine ol_pure rfl (op_assign rfl) ?_
  refine ol_nil ?_
  refine pq_then ?_
  refine cw_ret ?_
  refine pq_ret ?_
  refine ret1 rfl rfl ?_
  exact hS.sc_b (by symm; first | exact stepOk_big (by omega) | exact stepOk_noset (by rw [setOpen, decide_eq_false (show ¬ 0 < s.atoms.length by omega), Bool.and_false]))
 ·
  skip
  try simp only [decide_eq_true_eq, decide_eq_false_iff_not, Bool.not_eq_true', Bool.not_eq_false', Bool.not_eq_eq_eq_not, Bool.not_true, Bool.not_false] at h21
  refine ol_guard_pure rfl rfl rfl (op_fieldAddr fld_37_1 rfl) ?_
  refine ol_guard_load rfl rfl rfl (op_load1 one_28 rfl (fun w hw => (hw.bcell (i := 0) rfl).trans rfl)) hS ?_
  refine ol_guard_pure rfl rfl rfl (op_len sl_28 rfl rfl) ?_
  refine ol_guard_pure rfl rfl rfl (op_eql rfl rfl) ?_
  refine ol_pure rfl (op_pick_f rfl rfl) ?_
  refine ol_nil ?_
  refine pq_then ?_
  refine cw_cond rfl (fun h26 => ?_) (fun h26 => ?_)
  ·
   skip
   try simp only [decide_eq_true_eq, decide_eq_false_iff_not, Bool.not_eq_true', Bool.not_eq_false', Bool.not_eq_eq_eq_not, Bool.not_true, Bool.not_false] at h26
   refine cw_seq ?_
   refine cw_region ?_
   refine ol_pure rfl (op_assign rfl) ?_
   refine ol_nil ?_
   refine pq_then ?_
   refine cw_ret ?_
   refine pq_ret ?_
   refine ret1 rfl rfl ?_
   exact hS.sc_b (by symm; first | exact stepOk_big (by omega) | exact stepOk_noset (by rw [setOpen, decide_eq_false (show ¬ 0 < s.atoms.length by omega), Bool.and_false]))
  ·
   skip
   try simp only [decide_eq_true_eq, decide_eq_false_iff_not, Bool.not_eq_true', Bool.not_eq_false', Bool.not_eq_eq_eq_not, Bool.not_true, Bool.not_false] at h26
   have hne : 0 < s.atoms.length := by omega
   have hrl : s.rule < rs.length := by omega
   refine cw_skip ?_
   refine pq_then ?_
   refine cw_seq ?_
   refine cw_seq ?_
   refine cw_region ?_
   refine ol_pure rfl (op_assign rfl) ?_
   refine ol_nil ?_
   refine pq_then ?_
   refine cw_block ?_
   refine cw_loop (fun e w n => ∃ k : Nat, e = [(1, .slice oM m.length cM), (3, .pointer (some ⟨b3, 0, none⟩)), (5, .pointer (some ⟨b5, 0, none⟩)), (7, .int .i64 (k : Nat))] ∧ k ≤ s.atoms.length ∧ n = s.atoms.length - k ∧ (s.atoms.take k).all (fun a => decide (0 ≤ a) && decide (a < (m.length : Int)) && decide (valI m a = 1)) = true ∧ (s.atoms.take k).Pairwise (· < ·) ∧ SS G w0 G [.blk b5 37 [.int .i64 s.rule, .slice oS s.atoms.length cS], .blk b3 26 [.slice oA atoms.length cA, .slice oR rs.length cR]] w) _ _ (by exact ⟨0, rfl, Nat.zero_le _, rfl, rfl, by simp, hS⟩) ((Sub.cons rfl (Sub.cons rfl (Sub.cons rfl (Sub.cons rfl Sub.nil))))) ?_
   clear hS
   rintro e w n ⟨k, rfl, hk, rfl, hpa, hpw, hS⟩
   refine cw_seq ?_
   refine cw_seq ?_
   refine cw_region ?_
   refine ol_pure rfl (op_move rfl) ?_
   refine ol_pure rfl (op_fieldAddr fld_37_1 rfl) ?_
   refine ol_load rfl (op_load1 one_28 rfl (fun w hw => (hw.bcell (i := 0) rfl).trans rfl)) hS ?_
   refine ol_pure rfl (op_len sl_28 rfl rfl) ?_
   refine ol_pure rfl (op_lss rfl rfl) ?_
   refine ol_nil ?_
   refine pq_then ?_
   refine cw_cond rfl (fun h31 => ?_) (fun h31 => ?_)
   ·
    skip
    try simp only [decide_eq_true_eq, decide_eq_false_iff_not, Bool.not_eq_true', Bool.not_eq_false', Bool.not_eq_eq_eq_not, Bool.not_true, Bool.not_false] at h31
    have hlt : k < s.atoms.length := by omega
    obtain ⟨hoa, hcl, hb⟩ := h4.int hlt
    refine cw_skip ?_
    refine pq_then ?_
    refine cw_seq ?_
    refine cw_block ?_
    refine cw_seq ?_
    refine al_start' hS (hS.take 1) (by kernel_rfl) rfl (fun w hS hT => ?_)
    refine al_take (i := 0) rfl (by kernel_rfl) (by kernel_rfl) (by kernel_rfl) rfl (fun _ _ _ h => h) (op_fieldAddr fld_37_1 rfl) rfl ?_
    refine al_load (i := 1) rfl (by kernel_rfl) (by kernel_rfl) (by kernel_rfl) rfl (fun _ _ _ h => h) (by exact op_load1 one_28 rfl (fun w hw => (hw.bcell (i := 0) rfl).trans rfl)) rfl hT ?_
    refine al_take (i := 2) rfl (by kernel_rfl) (by kernel_rfl) (by kernel_rfl) rfl (fun _ _ _ h => h) (op_move rfl) rfl ?_
    refine al_take (i := 3) rfl (by kernel_rfl) (by kernel_rfl) (by kernel_rfl) rfl (fun _ _ _ h => h) (op_indexN sl_28 rfl rfl (by omega) hoa) rfl ?_
    refine al_load (i := 4) rfl (by kernel_rfl) (by kernel_rfl) (by kernel_rfl) rfl (fun _ _ _ h => h) (by exact op_load1 one_3 rfl (fun w hw => hw.gcell hcl)) rfl hT ?_
    refine al_take (i := 5) rfl (by kernel_rfl) (by kernel_rfl) (by kernel_rfl) rfl (fun _ _ _ h => h) (op_lss rfl rfl) rfl ?_
    refine al_take (i := 6) rfl (by kernel_rfl) (by kernel_rfl) (by kernel_rfl) rfl (fun _ _ _ h => h) (op_move rfl) rfl ?_
    refine al_split (fun h40 => ?_) (fun h40 => ?_)
    ·
     skip
     try simp only [decide_eq_true_eq, decide_eq_false_iff_not, Bool.not_eq_true', Bool.not_eq_false', Bool.not_eq_eq_eq_not, Bool.not_true, Bool.not_false] at h40
     refine al_gskip (i := 7) rfl (by kernel_rfl) (by kernel_rfl) (by kernel_rfl) rfl rfl rfl rfl (fun _ _ _ h => h) (fun _ => hT) ?_
     refine al_gskip (i := 8) rfl (by kernel_rfl) (by kernel_rfl) (by kernel_rfl) rfl rfl rfl rfl (fun _ _ _ h => h) (fun _ => hT) ?_
     refine al_gskip (i := 9) rfl (by kernel_rfl) (by kernel_rfl) (by kernel_rfl) rfl rfl rfl rfl (fun _ _ _ h => h) (fun _ => hT) ?_
     refine al_gskip (i := 10) rfl (by kernel_rfl) (by kernel_rfl) (by kernel_rfl) rfl rfl rfl rfl (fun _ _ _ h => h) (fun _ => hT) ?_
     refine al_gskip (i := 11) rfl (by kernel_rfl) (by kernel_rfl) (by kernel_rfl) rfl rfl rfl rfl (fun _ _ _ h => h) (fun _ => hT) ?_
     refine al_gskip (i := 12) rfl (by kernel_rfl) (by kernel_rfl) (by kernel_rfl) rfl rfl rfl rfl (fun _ _ _ h => h) (fun _ => hT) ?_
     refine al_gskip (i := 13) rfl (by kernel_rfl) (by kernel_rfl) (by kernel_rfl) rfl rfl rfl rfl (fun _ _ _ h => h) (fun _ => hT) ?_
     refine al_gskip (i := 14) rfl (by kernel_rfl) (by kernel_rfl) (by kernel_rfl) rfl rfl rfl rfl (fun _ _ _ h => h) (fun _ => hT) ?_
     refine al_take (i := 15) rfl (by kernel_rfl) (by kernel_rfl) (by kernel_rfl) rfl (fun _ _ _ h => h) (op_pick_t rfl rfl) rfl ?_
     refine al_take (i := 16) rfl (by kernel_rfl) (by kernel_rfl) (by kernel_rfl) rfl (fun _ _ _ h => h) (op_move rfl) rfl ?_
     refine al_gskip (i := 17) rfl (by kernel_rfl) (by kernel_rfl) (by kernel_rfl) rfl rfl rfl rfl (fun _ _ _ h => h) (fun _ => hT) ?_
     refine al_gskip (i := 18) rfl (by kernel_rfl) (by kernel_rfl) (by kernel_rfl) rfl rfl rfl rfl (fun _ _ _ h => h) (fun _ => hT) ?_
     refine al_gskip (i := 19) rfl (by kernel_rfl) (by kernel_rfl) (by kernel_rfl) rfl rfl rfl rfl (fun _ _ _ h => h) (fun _ => hT) ?_
     refine al_gskip (i := 20) rfl (by kernel_rfl) (by kernel_rfl) (by kernel_rfl) rfl rfl rfl rfl (fun _ _ _ h => h) (fun _ => hT) ?_
     refine al_gskip (i := 21) rfl (by kernel_rfl) (by kernel_rfl) (by kernel_rfl) rfl rfl rfl rfl (fun _ _ _ h => h) (fun _ => hT) ?_
     refine al_gskip (i := 22) rfl (by kernel_rfl) (by kernel_rfl) (by kernel_rfl) rfl rfl rfl rfl (fun _ _ _ h => h) (fun _ => hT) ?_
     refine al_gskip (i := 23) rfl (by kernel_rfl) (by kernel_rfl) (by kernel_rfl) rfl rfl rfl rfl (fun _ _ _ h => h) (fun _ => hT) ?_
     refine al_gskip (i := 24) rfl (by kernel_rfl) (by kernel_rfl) (by kernel_rfl) rfl rfl rfl rfl (fun _ _ _ h => h) (fun _ => hT) ?_
     refine al_gskip (i := 25) rfl (by kernel_rfl) (by kernel_rfl) (by kernel_rfl) rfl rfl rfl rfl (fun _ _ _ h => h) (fun _ => hT) ?_
     refine al_take (i := 26) rfl (by kernel_rfl) (by kernel_rfl) (by kernel_rfl) rfl (fun _ _ _ h => h) (op_pick_t rfl rfl) rfl ?_
     refine al_take (i := 27) rfl (by kernel_rfl) (by kernel_rfl) (by kernel_rfl) rfl (fun _ _ _ h => h) (op_move rfl) rfl ?_
     refine al_gskip (i := 28) rfl (by kernel_rfl) (by kernel_rfl) (by kernel_rfl) rfl rfl rfl rfl (fun _ _ _ h => h) (fun _ => hT) ?_
     refine al_gskip (i := 29) rfl (by kernel_rfl) (by kernel_rfl) (by kernel_rfl) rfl rfl rfl rfl (fun _ _ _ h => h) (fun _ => hT) ?_
     refine al_gskip (i := 30) rfl (by kernel_rfl) (by kernel_rfl) (by kernel_rfl) rfl rfl rfl rfl (fun _ _ _ h => h) (fun _ => hT) ?_
     refine al_gundef (i := 31) rfl (by kernel_rfl) (by kernel_rfl) (by kernel_rfl) rfl rfl rfl (fun _ _ _ h => h) (fun _ => hT) ?_
     refine al_gundef (i := 32) rfl (by kernel_rfl) (by kernel_rfl) (by kernel_rfl) rfl rfl rfl (fun _ _ _ h => h) (fun _ => hT) ?_
     refine al_gundef (i := 33) rfl (by kernel_rfl) (by kernel_rfl) (by kernel_rfl) rfl rfl rfl (fun _ _ _ h => h) (fun _ => hT) ?_
     refine al_gundef (i := 34) rfl (by kernel_rfl) (by kernel_rfl) (by kernel_rfl) rfl rfl rfl (fun _ _ _ h => h) (fun _ => hT) ?_
     refine al_gundef (i := 35) rfl (by kernel_rfl) (by kernel_rfl) (by kernel_rfl) rfl rfl rfl (fun _ _ _ h => h) (fun _ => hT) ?_
     refine al_gundef (i := 36) rfl (by kernel_rfl) (by kernel_rfl) (by kernel_rfl) rfl rfl rfl (fun _ _ _ h => h) (fun _ => hT) ?_
     refine al_gundef (i := 37) rfl (by kernel_rfl) (by kernel_rfl) (by kernel_rfl) rfl rfl rfl (fun _ _ _ h => h) (fun _ => hT) ?_
     refine al_gundef (i := 38) rfl (by kernel_rfl) (by kernel_rfl) (by kernel_rfl) rfl rfl rfl (fun _ _ _ h => h) (fun _ => hT) ?_
     refine al_gundef (i := 39) rfl (by kernel_rfl) (by kernel_rfl) (by kernel_rfl) rfl rfl rfl (fun _ _ _ h => h) (fun _ => hT) ?_
     refine al_gundef (i := 40) rfl (by kernel_rfl) (by kernel_rfl) (by kernel_rfl) rfl rfl rfl (fun _ _ _ h => h) (fun _ => hT) ?_
     refine al_gundef (i := 41) rfl (by kernel_rfl) (by kernel_rfl) (by kernel_rfl) rfl rfl rfl (fun _ _ _ h => h) (fun _ => hT) ?_
     refine al_gundef (i := 42) rfl (by kernel_rfl) (by kernel_rfl) (by kernel_rfl) rfl rfl rfl (fun _ _ _ h => h) (fun _ => hT) ?_
     refine al_gskip (i := 43) rfl (by kernel_rfl) (by kernel_rfl) (by kernel_rfl) rfl rfl rfl rfl (fun _ _ _ h => h) (fun _ => hT) ?_
     refine al_take (i := 44) rfl (by kernel_rfl) (by kernel_rfl) (by kernel_rfl) rfl (fun _ _ _ h => h) (op_pick_t rfl rfl) rfl ?_
     refine al_done (by kernel_rfl) ?_
     refine pq_then ?_
     refine cw_cond_t rfl ?_
     refine cw_seq ?_
     refine cw_region ?_
     refine ol_pure rfl (op_assign rfl) ?_
     refine ol_nil ?_
     refine pq_then ?_
     refine cw_ret ?_
     refine pq_in_ret ?_
     refine pq_ret ?_
     refine pq_ret ?_
     refine pq_in_ret ?_
     refine pq_ret ?_
     refine ret1 rfl rfl ?_
     exact hS.sc_b (by symm; exact stepOk_noset (by rw [setOpen, Pl.all_false_at (fun a => decide (0 ≤ a) && decide (a < (m.length : Int)) && decide (valI m a = 1)) _ _ hlt (by simp; omega)]; rfl))
    ·
     skip
     try simp only [decide_eq_true_eq, decide_eq_false_iff_not, Bool.not_eq_true', Bool.not_eq_false', Bool.not_eq_eq_eq_not, Bool.not_true, Bool.not_false] at h40
     refine al_gtake (i := 7) rfl (by kernel_rfl) (by kernel_rfl) (by kernel_rfl) rfl rfl rfl (fun _ _ _ h => h) (op_fieldAddr fld_37_1 rfl) rfl ?_
     refine al_gload (i := 8) rfl (by kernel_rfl) (by kernel_rfl) (by kernel_rfl) rfl rfl rfl (fun _ _ _ h => h) (by exact op_load1 one_28 rfl (fun w hw => (hw.bcell (i := 0) rfl).trans rfl)) rfl hT ?_
     refine al_gtake (i := 9) rfl (by kernel_rfl) (by kernel_rfl) (by kernel_rfl) rfl rfl rfl (fun _ _ _ h => h) (op_move rfl) rfl ?_
     refine al_gtake (i := 10) rfl (by kernel_rfl) (by kernel_rfl) (by kernel_rfl) rfl rfl rfl (fun _ _ _ h => h) (op_indexN sl_28 rfl rfl (by omega) hoa) rfl ?_
     refine al_gload (i := 11) rfl (by kernel_rfl) (by kernel_rfl) (by kernel_rfl) rfl rfl rfl (fun _ _ _ h => h) (by exact op_load1 one_3 rfl (fun w hw => hw.gcell hcl)) rfl hT ?_
     refine al_gtake (i := 12) rfl (by kernel_rfl) (by kernel_rfl) (by kernel_rfl) rfl rfl rfl (fun _ _ _ h => h) (op_move rfl) rfl ?_
     refine al_gtake (i := 13) rfl (by kernel_rfl) (by kernel_rfl) (by kernel_rfl) rfl rfl rfl (fun _ _ _ h => h) (op_len sl_28 rfl rfl) rfl ?_
     refine al_gtake (i := 14) rfl (by kernel_rfl) (by kernel_rfl) (by kernel_rfl) rfl rfl rfl (fun _ _ _ h => h) (op_geq rfl rfl) rfl ?_
     refine al_take (i := 15) rfl (by kernel_rfl) (by kernel_rfl) (by kernel_rfl) rfl (fun _ _ _ h => h) (op_pick_f rfl rfl) rfl ?_
     refine al_take (i := 16) rfl (by kernel_rfl) (by kernel_rfl) (by kernel_rfl) rfl (fun _ _ _ h => h) (op_move rfl) rfl ?_
     refine al_split (fun h50 => ?_) (fun h50 => ?_)
     ·
      skip
      try simp only [decide_eq_true_eq, decide_eq_false_iff_not, Bool.not_eq_true', Bool.not_eq_false', Bool.not_eq_eq_eq_not, Bool.not_true, Bool.not_false] at h50
      refine al_gskip (i := 17) rfl (by kernel_rfl) (by kernel_rfl) (by kernel_rfl) rfl rfl rfl rfl (fun _ _ _ h => h) (fun _ => hT) ?_
      refine al_gskip (i := 18) rfl (by kernel_rfl) (by kernel_rfl) (by kernel_rfl) rfl rfl rfl rfl (fun _ _ _ h => h) (fun _ => hT) ?_
      refine al_gskip (i := 19) rfl (by kernel_rfl) (by kernel_rfl) (by kernel_rfl) rfl rfl rfl rfl (fun _ _ _ h => h) (fun _ => hT) ?_
      refine al_gskip (i := 20) rfl (by kernel_rfl) (by kernel_rfl) (by kernel_rfl) rfl rfl rfl rfl (fun _ _ _ h => h) (fun _ => hT) ?_
      refine al_gskip (i := 21) rfl (by kernel_rfl) (by kernel_rfl) (by kernel_rfl) rfl rfl rfl rfl (fun _ _ _ h => h) (fun _ => hT) ?_
      refine al_gskip (i := 22) rfl (by kernel_rfl) (by kernel_rfl) (by kernel_rfl) rfl rfl rfl rfl (fun _ _ _ h => h) (fun _ => hT) ?_
      refine al_gskip (i := 23) rfl (by kernel_rfl) (by kernel_rfl) (by kernel_rfl) rfl rfl rfl rfl (fun _ _ _ h => h) (fun _ => hT) ?_
      refine al_gskip (i := 24) rfl (by kernel_rfl) (by kernel_rfl) (by kernel_rfl) rfl rfl rfl rfl (fun _ _ _ h => h) (fun _ => hT) ?_
      refine al_gskip (i := 25) rfl (by kernel_rfl) (by kernel_rfl) (by kernel_rfl) rfl rfl rfl rfl (fun _ _ _ h => h) (fun _ => hT) ?_
      refine al_take (i := 26) rfl (by kernel_rfl) (by kernel_rfl) (by kernel_rfl) rfl (fun _ _ _ h => h) (op_pick_t rfl rfl) rfl ?_
      refine al_take (i := 27) rfl (by kernel_rfl) (by kernel_rfl) (by kernel_rfl) rfl (fun _ _ _ h => h) (op_move rfl) rfl ?_
      refine al_gskip (i := 28) rfl (by kernel_rfl) (by kernel_rfl) (by kernel_rfl) rfl rfl rfl rfl (fun _ _ _ h => h) (fun _ => hT) ?_
      refine al_gskip (i := 29) rfl (by kernel_rfl) (by kernel_rfl) (by kernel_rfl) rfl rfl rfl rfl (fun _ _ _ h => h) (fun _ => hT) ?_
      refine al_gskip (i := 30) rfl (by kernel_rfl) (by kernel_rfl) (by kernel_rfl) rfl rfl rfl rfl (fun _ _ _ h => h) (fun _ => hT) ?_
      refine al_gundef (i := 31) rfl (by kernel_rfl) (by kernel_rfl) (by kernel_rfl) rfl rfl rfl (fun _ _ _ h => h) (fun _ => hT) ?_
      refine al_gundef (i := 32) rfl (by kernel_rfl) (by kernel_rfl) (by kernel_rfl) rfl rfl rfl (fun _ _ _ h => h) (fun _ => hT) ?_
      refine al_gundef (i := 33) rfl (by kernel_rfl) (by kernel_rfl) (by kernel_rfl) rfl rfl rfl (fun _ _ _ h => h) (fun _ => hT) ?_
      refine al_gundef (i := 34) rfl (by kernel_rfl) (by kernel_rfl) (by kernel_rfl) rfl rfl rfl (fun _ _ _ h => h) (fun _ => hT) ?_
      refine al_gundef (i := 35) rfl (by kernel_rfl) (by kernel_rfl) (by kernel_rfl) rfl rfl rfl (fun _ _ _ h => h) (fun _ => hT) ?_
      refine al_gundef (i := 36) rfl (by kernel_rfl) (by kernel_rfl) (by kernel_rfl) rfl rfl rfl (fun _ _ _ h => h) (fun _ => hT) ?_
      refine al_gundef (i := 37) rfl (by kernel_rfl) (by kernel_rfl) (by kernel_rfl) rfl rfl rfl (fun _ _ _ h => h) (fun _ => hT) ?_
      refine al_gundef (i := 38) rfl (by kernel_rfl) (by kernel_rfl) (by kernel_rfl) rfl rfl rfl (fun _ _ _ h => h) (fun _ => hT) ?_
      refine al_gundef (i := 39) rfl (by kernel_rfl) (by kernel_rfl) (by kernel_rfl) rfl rfl rfl (fun _ _ _ h => h) (fun _ => hT) ?_
      refine al_gundef (i := 40) rfl (by kernel_rfl) (by kernel_rfl) (by kernel_rfl) rfl rfl rfl (fun _ _ _ h => h) (fun _ => hT) ?_
      refine al_gundef (i := 41) rfl (by kernel_rfl) (by kernel_rfl) (by kernel_rfl) rfl rfl rfl (fun _ _ _ h => h) (fun _ => hT) ?_
      refine al_gundef (i := 42) rfl (by kernel_rfl) (by kernel_rfl) (by kernel_rfl) rfl rfl rfl (fun _ _ _ h => h) (fun _ => hT) ?_
      refine al_gskip (i := 43) rfl (by kernel_rfl) (by kernel_rfl) (by kernel_rfl) rfl rfl rfl rfl (fun _ _ _ h => h) (fun _ => hT) ?_
      refine al_take (i := 44) rfl (by kernel_rfl) (by kernel_rfl) (by kernel_rfl) rfl (fun _ _ _ h => h) (op_pick_t rfl rfl) rfl ?_
      refine al_done (by kernel_rfl) ?_
      refine pq_then ?_
      refine cw_cond_t rfl ?_
      refine cw_seq ?_
      refine cw_region ?_
      refine ol_pure rfl (op_assign rfl) ?_
      refine ol_nil ?_
      refine pq_then ?_
      refine cw_ret ?_
      refine pq_in_ret ?_
      refine pq_ret ?_
      refine pq_ret ?_
      refine pq_in_ret ?_
      refine pq_ret ?_
      refine ret1 rfl rfl ?_
      exact hS.sc_b (by symm; exact stepOk_noset (by rw [setOpen, Pl.all_false_at (fun a => decide (0 ≤ a) && decide (a < (m.length : Int)) && decide (valI m a = 1)) _ _ hlt (by simp; omega)]; rfl))
     ·
      skip
      try simp only [decide_eq_true_eq, decide_eq_false_iff_not, Bool.not_eq_true', Bool.not_eq_false', Bool.not_eq_eq_eq_not, Bool.not_true, Bool.not_false] at h50
      obtain ⟨j, hj⟩ := Int.eq_ofNat_of_zero_le (show 0 ≤ s.atoms[k] by omega)
      have hjm : j < m.length := by omega
      obtain ⟨hoM, hcM, _⟩ := h3.int hjm
      have hvj : valI m s.atoms[k] = m[j] := by rw [hj]; exact val_at' hjm
      refine al_gtake (i := 17) rfl (by kernel_rfl) (by kernel_rfl) (by kernel_rfl) rfl rfl rfl (fun _ _ _ h => h) (op_move rfl) rfl ?_
      refine al_gtake (i := 18) rfl (by kernel_rfl) (by kernel_rfl) (by kernel_rfl) rfl rfl rfl (fun _ _ _ h => h) (op_fieldAddr fld_37_1 rfl) rfl ?_
      refine al_gload (i := 19) rfl (by kernel_rfl) (by kernel_rfl) (by kernel_rfl) rfl rfl rfl (fun _ _ _ h => h) (by exact op_load1 one_28 rfl (fun w hw => (hw.bcell (i := 0) rfl).trans rfl)) rfl hT ?_
      refine al_gtake (i := 20) rfl (by kernel_rfl) (by kernel_rfl) (by kernel_rfl) rfl rfl rfl (fun _ _ _ h => h) (op_move rfl) rfl ?_
      refine al_gtake (i := 21) rfl (by kernel_rfl) (by kernel_rfl) (by kernel_rfl) rfl rfl rfl (fun _ _ _ h => h) (op_indexN sl_28 rfl rfl (by omega) hoa) rfl ?_
      refine al_gload (i := 22) rfl (by kernel_rfl) (by kernel_rfl) (by kernel_rfl) rfl rfl rfl (fun _ _ _ h => h) (by exact op_load1 one_3 rfl (fun w hw => hw.gcell hcl)) rfl hT ?_
      refine al_gtake (i := 23) rfl (by kernel_rfl) (by kernel_rfl) (by kernel_rfl) rfl rfl rfl (fun _ _ _ h => h) (op_indexAddr sl_28 rfl rfl (by omega) (by omega) hoM) rfl ?_
      refine al_gload (i := 24) rfl (by kernel_rfl) (by kernel_rfl) (by kernel_rfl) rfl rfl rfl (fun _ _ _ h => h) (by exact op_load1 one_3 rfl (fun w hw => hw.gcell (by rw [hj]; exact hcM))) rfl hT ?_
      refine al_gtake (i := 25) rfl (by kernel_rfl) (by kernel_rfl) (by kernel_rfl) rfl rfl rfl (fun _ _ _ h => h) (op_neq rfl rfl) rfl ?_
      refine al_take (i := 26) rfl (by kernel_rfl) (by kernel_rfl) (by kernel_rfl) rfl (fun _ _ _ h => h) (op_pick_f rfl rfl) rfl ?_
      refine al_take (i := 27) rfl (by kernel_rfl) (by kernel_rfl) (by kernel_rfl) rfl (fun _ _ _ h => h) (op_move rfl) rfl ?_
      refine al_split (fun h61 => ?_) (fun h61 => ?_)
      ·
       skip
       try simp only [decide_eq_true_eq, decide_eq_false_iff_not, Bool.not_eq_true', Bool.not_eq_false', Bool.not_eq_eq_eq_not, Bool.not_true, Bool.not_false] at h61
       refine al_gskip (i := 28) rfl (by kernel_rfl) (by kernel_rfl) (by kernel_rfl) rfl rfl rfl rfl (fun _ _ _ h => h) (fun _ => hT) ?_
       refine al_gskip (i := 29) rfl (by kernel_rfl) (by kernel_rfl) (by kernel_rfl) rfl rfl rfl rfl (fun _ _ _ h => h) (fun _ => hT) ?_
       refine al_gskip (i := 30) rfl (by kernel_rfl) (by kernel_rfl) (by kernel_rfl) rfl rfl rfl rfl (fun _ _ _ h => h) (fun _ => hT) ?_
       refine al_gundef (i := 31) rfl (by kernel_rfl) (by kernel_rfl) (by kernel_rfl) rfl rfl rfl (fun _ _ _ h => h) (fun _ => hT) ?_
       refine al_gundef (i := 32) rfl (by kernel_rfl) (by kernel_rfl) (by kernel_rfl) rfl rfl rfl (fun _ _ _ h => h) (fun _ => hT) ?_
       refine al_gundef (i := 33) rfl (by kernel_rfl) (by kernel_rfl) (by kernel_rfl) rfl rfl rfl (fun _ _ _ h => h) (fun _ => hT) ?_
       refine al_gundef (i := 34) rfl (by kernel_rfl) (by kernel_rfl) (by kernel_rfl) rfl rfl rfl (fun _ _ _ h => h) (fun _ => hT) ?_
       refine al_gundef (i := 35) rfl (by kernel_rfl) (by kernel_rfl) (by kernel_rfl) rfl rfl rfl (fun _ _ _ h => h) (fun _ => hT) ?_
       refine al_gundef (i := 36) rfl (by kernel_rfl) (by kernel_rfl) (by kernel_rfl) rfl rfl rfl (fun _ _ _ h => h) (fun _ => hT) ?_
       refine al_gundef (i := 37) rfl (by kernel_rfl) (by kernel_rfl) (by kernel_rfl) rfl rfl rfl (fun _ _ _ h => h) (fun _ => hT) ?_
       refine al_gundef (i := 38) rfl (by kernel_rfl) (by kernel_rfl) (by kernel_rfl) rfl rfl rfl (fun _ _ _ h => h) (fun _ => hT) ?_
       refine al_gundef (i := 39) rfl (by kernel_rfl) (by kernel_rfl) (by kernel_rfl) rfl rfl rfl (fun _ _ _ h => h) (fun _ => hT) ?_
       refine al_gundef (i := 40) rfl (by kernel_rfl) (by kernel_rfl) (by kernel_rfl) rfl rfl rfl (fun _ _ _ h => h) (fun _ => hT) ?_
       refine al_gundef (i := 41) rfl (by kernel_rfl) (by kernel_rfl) (by kernel_rfl) rfl rfl rfl (fun _ _ _ h => h) (fun _ => hT) ?_
       refine al_gundef (i := 42) rfl (by kernel_rfl) (by kernel_rfl) (by kernel_rfl) rfl rfl rfl (fun _ _ _ h => h) (fun _ => hT) ?_
       refine al_gskip (i := 43) rfl (by kernel_rfl) (by kernel_rfl) (by kernel_rfl) rfl rfl rfl rfl (fun _ _ _ h => h) (fun _ => hT) ?_
       refine al_take (i := 44) rfl (by kernel_rfl) (by kernel_rfl) (by kernel_rfl) rfl (fun _ _ _ h => h) (op_pick_t rfl rfl) rfl ?_
       refine al_done (by kernel_rfl) ?_
       refine pq_then ?_
       refine cw_cond_t rfl ?_
       refine cw_seq ?_
       refine cw_region ?_
       refine ol_pure rfl (op_assign rfl) ?_
       refine ol_nil ?_
       refine pq_then ?_
       refine cw_ret ?_
       refine pq_in_ret ?_
       refine pq_ret ?_
       refine pq_ret ?_
       refine pq_in_ret ?_
       refine pq_ret ?_
       refine ret1 rfl rfl ?_
       exact hS.sc_b (by symm; exact stepOk_noset (by rw [setOpen, Pl.all_false_at (fun a => decide (0 ≤ a) && decide (a < (m.length : Int)) && decide (valI m a = 1)) _ _ hlt (by rw [hvj]; simp; omega)]; rfl))
      ·
       skip
       try simp only [decide_eq_true_eq, decide_eq_false_iff_not, Bool.not_eq_true', Bool.not_eq_false', Bool.not_eq_eq_eq_not, Bool.not_true, Bool.not_false] at h61
       refine al_gtake (i := 28) rfl (by kernel_rfl) (by kernel_rfl) (by kernel_rfl) rfl rfl rfl (fun _ _ _ h => h) (op_move rfl) rfl ?_
       refine al_gtake (i := 29) rfl (by kernel_rfl) (by kernel_rfl) (by kernel_rfl) rfl rfl rfl (fun _ _ _ h => h) (op_gtr rfl rfl) rfl ?_
       refine al_gtake (i := 30) rfl (by kernel_rfl) (by kernel_rfl) (by kernel_rfl) rfl rfl rfl (fun _ _ _ h => h) (op_move rfl) rfl ?_
       refine al_split (fun h64 => ?_) (fun h64 => ?_)
       ·
        skip
        try simp only [decide_eq_true_eq, decide_eq_false_iff_not, Bool.not_eq_true', Bool.not_eq_false', Bool.not_eq_eq_eq_not, Bool.not_true, Bool.not_false] at h64
        have hk1 : k - 1 < s.atoms.length := by omega
        obtain ⟨_, hc2', _⟩ := h4.int hk1
        have hc2 : gcell G (elA oS (((k : Int) - 1).toNat * 1)) = some (.int .i64 s.atoms[k - 1]) := by rw [show ((k : Int) - 1).toNat = k - 1 from by omega]; exact hc2'
        refine al_gtake (i := 31) rfl (by kernel_rfl) (by kernel_rfl) (by kernel_rfl) rfl rfl rfl (fun _ _ _ h => h) (op_fieldAddr fld_37_1 rfl) rfl ?_
        refine al_gload (i := 32) rfl (by kernel_rfl) (by kernel_rfl) (by kernel_rfl) rfl rfl rfl (fun _ _ _ h => h) (by exact op_load1 one_28 rfl (fun w hw => (hw.bcell (i := 0) rfl).trans rfl)) rfl hT ?_
        refine al_gtake (i := 33) rfl (by kernel_rfl) (by kernel_rfl) (by kernel_rfl) rfl rfl rfl (fun _ _ _ h => h) (op_move rfl) rfl ?_
        refine al_gtake (i := 34) rfl (by kernel_rfl) (by kernel_rfl) (by kernel_rfl) rfl rfl rfl (fun _ _ _ h => h) (op_sub rfl rfl (by omega) (by omega)) rfl ?_
        refine al_gtake (i := 35) rfl (by kernel_rfl) (by kernel_rfl) (by kernel_rfl) rfl rfl rfl (fun _ _ _ h => h) (op_indexAddr sl_28 rfl rfl (by omega) (by omega) hoa) rfl ?_
        refine al_gload (i := 36) rfl (by kernel_rfl) (by kernel_rfl) (by kernel_rfl) rfl rfl rfl (fun _ _ _ h => h) (by exact op_load1 one_3 rfl (fun w hw => hw.gcell hc2)) rfl hT ?_
        refine al_gtake (i := 37) rfl (by kernel_rfl) (by kernel_rfl) (by kernel_rfl) rfl rfl rfl (fun _ _ _ h => h) (op_fieldAddr fld_37_1 rfl) rfl ?_
        refine al_gload (i := 38) rfl (by kernel_rfl) (by kernel_rfl) (by kernel_rfl) rfl rfl rfl (fun _ _ _ h => h) (by exact op_load1 one_28 rfl (fun w hw => (hw.bcell (i := 0) rfl).trans rfl)) rfl hT ?_
        refine al_gtake (i := 39) rfl (by kernel_rfl) (by kernel_rfl) (by kernel_rfl) rfl rfl rfl (fun _ _ _ h => h) (op_move rfl) rfl ?_
        refine al_gtake (i := 40) rfl (by kernel_rfl) (by kernel_rfl) (by kernel_rfl) rfl rfl rfl (fun _ _ _ h => h) (op_indexN sl_28 rfl rfl (by omega) hoa) rfl ?_
        refine al_gload (i := 41) rfl (by kernel_rfl) (by kernel_rfl) (by kernel_rfl) rfl rfl rfl (fun _ _ _ h => h) (by exact op_load1 one_3 rfl (fun w hw => hw.gcell hcl)) rfl hT ?_
        refine al_gtake (i := 42) rfl (by kernel_rfl) (by kernel_rfl) (by kernel_rfl) rfl rfl rfl (fun _ _ _ h => h) (op_geq rfl rfl) rfl ?_
        refine al_gtake (i := 43) rfl (by kernel_rfl) (by kernel_rfl) (by kernel_rfl) rfl rfl rfl (fun _ _ _ h => h) (op_pick_t rfl rfl) rfl ?_
        refine al_take (i := 44) rfl (by kernel_rfl) (by kernel_rfl) (by kernel_rfl) rfl (fun _ _ _ h => h) (op_pick_f rfl rfl) rfl ?_
        refine al_done (by kernel_rfl) ?_
        refine pq_then ?_
        refine cw_cond rfl (fun h78 => ?_) (fun h78 => ?_)
        ·
         skip
         try simp only [decide_eq_true_eq, decide_eq_false_iff_not, Bool.not_eq_true', Bool.not_eq_false', Bool.not_eq_eq_eq_not, Bool.not_true, Bool.not_false] at h78
         refine cw_seq ?_
         refine cw_region ?_
         refine ol_pure rfl (op_assign rfl) ?_
         refine ol_nil ?_
         refine pq_then ?_
         refine cw_ret ?_
         refine pq_in_ret ?_
         refine pq_ret ?_
         refine pq_ret ?_
         refine pq_in_ret ?_
         refine pq_ret ?_
         refine ret1 rfl rfl ?_
         exact hS.sc_b (by symm; exact stepOk_noset (by rw [setOpen, decide_eq_false (Pl.not_pairwise_at hlt (by omega) (by omega)), Bool.and_false, Bool.false_and]))
        ·
         skip
         try simp only [decide_eq_true_eq, decide_eq_false_iff_not, Bool.not_eq_true', Bool.not_eq_false', Bool.not_eq_eq_eq_not, Bool.not_true, Bool.not_false] at h78
         refine cw_skip ?_
         refine pq_in_normal ?_
         refine pq_then ?_
         refine cw_region ?_
         refine ol_pure rfl (op_move rfl) ?_
         refine ol_pure rfl (op_add rfl rfl (by omega) (by omega)) ?_
         refine ol_pure rfl (op_assign rfl) ?_
         refine ol_nil ?_
         refine pq_loop _ _ (by exact ⟨k + 1, rfl, by omega, rfl, by rw [Pl.all_take_succ (fun a => decide (0 ≤ a) && decide (a < (m.length : Int)) && decide (valI m a = 1)) _ _ hlt, hpa, hvj]; simp; omega, Pl.pairwise_take_succ hlt hpw (.inr ⟨by omega, by omega⟩), hS⟩) ((Sub.cons rfl (Sub.cons rfl (Sub.cons rfl (Sub.cons rfl Sub.nil))))) (by omega)
       ·
        skip
        try simp only [decide_eq_true_eq, decide_eq_false_iff_not, Bool.not_eq_true', Bool.not_eq_false', Bool.not_eq_eq_eq_not, Bool.not_true, Bool.not_false] at h64
        refine al_gskip (i := 31) rfl (by kernel_rfl) (by kernel_rfl) (by kernel_rfl) rfl rfl rfl rfl (fun _ _ _ h => h) (fun _ => hT) ?_
        refine al_gskip (i := 32) rfl (by kernel_rfl) (by kernel_rfl) (by kernel_rfl) rfl rfl rfl rfl (fun _ _ _ h => h) (fun _ => hT) ?_
        refine al_gskip (i := 33) rfl (by kernel_rfl) (by kernel_rfl) (by kernel_rfl) rfl rfl rfl rfl (fun _ _ _ h => h) (fun _ => hT) ?_
        refine al_gskip (i := 34) rfl (by kernel_rfl) (by kernel_rfl) (by kernel_rfl) rfl rfl rfl rfl (fun _ _ _ h => h) (fun _ => hT) ?_
        refine al_gskip (i := 35) rfl (by kernel_rfl) (by kernel_rfl) (by kernel_rfl) rfl rfl rfl rfl (fun _ _ _ h => h) (fun _ => hT) ?_
        refine al_gskip (i := 36) rfl (by kernel_rfl) (by kernel_rfl) (by kernel_rfl) rfl rfl rfl rfl (fun _ _ _ h => h) (fun _ => hT) ?_
        refine al_gskip (i := 37) rfl (by kernel_rfl) (by kernel_rfl) (by kernel_rfl) rfl rfl rfl rfl (fun _ _ _ h => h) (fun _ => hT) ?_
        refine al_gskip (i := 38) rfl (by kernel_rfl) (by kernel_rfl) (by kernel_rfl) rfl rfl rfl rfl (fun _ _ _ h => h) (fun _ => hT) ?_
        refine al_gskip (i := 39) rfl (by kernel_rfl) (by kernel_rfl) (by kernel_rfl) rfl rfl rfl rfl (fun _ _ _ h => h) (fun _ => hT) ?_
        refine al_gskip (i := 40) rfl (by kernel_rfl) (by kernel_rfl) (by kernel_rfl) rfl rfl rfl rfl (fun _ _ _ h => h) (fun _ => hT) ?_
        refine al_gskip (i := 41) rfl (by kernel_rfl) (by kernel_rfl) (by kernel_rfl) rfl rfl rfl rfl (fun _ _ _ h => h) (fun _ => hT) ?_
        refine al_gskip (i := 42) rfl (by kernel_rfl) (by kernel_rfl) (by kernel_rfl) rfl rfl rfl rfl (fun _ _ _ h => h) (fun _ => hT) ?_
        refine al_gtake (i := 43) rfl (by kernel_rfl) (by kernel_rfl) (by kernel_rfl) rfl rfl rfl (fun _ _ _ h => h) (op_pick_f rfl rfl) rfl ?_
        refine al_take (i := 44) rfl (by kernel_rfl) (by kernel_rfl) (by kernel_rfl) rfl (fun _ _ _ h => h) (op_pick_f rfl rfl) rfl ?_
        refine al_done (by kernel_rfl) ?_
        refine pq_then ?_
        refine cw_cond_f rfl ?_
        refine cw_skip ?_
        refine pq_in_normal ?_
        refine pq_then ?_
        refine cw_region ?_
        refine ol_pure rfl (op_move rfl) ?_
        refine ol_pure rfl (op_add rfl rfl (by omega) (by omega)) ?_
        refine ol_pure rfl (op_assign rfl) ?_
        refine ol_nil ?_
        refine pq_loop _ _ (by exact ⟨k + 1, rfl, by omega, rfl, by rw [Pl.all_take_succ (fun a => decide (0 ≤ a) && decide (a < (m.length : Int)) && decide (valI m a = 1)) _ _ hlt, hpa, hvj]; simp; omega, Pl.pairwise_take_succ hlt hpw (.inl (by omega)), hS⟩) ((Sub.cons rfl (Sub.cons rfl (Sub.cons rfl (Sub.cons rfl Sub.nil))))) (by omega)
   ·
    skip
    try simp only [decide_eq_true_eq, decide_eq_false_iff_not, Bool.not_eq_true', Bool.not_eq_false', Bool.not_eq_eq_eq_not, Bool.not_true, Bool.not_false] at h31
    rw [List.take_of_length_le (by omega)] at hpa hpw
    have hso : setOpen m s.atoms = true := by rw [setOpen, hpa, decide_eq_true hpw]; simp [hne]
    refine cw_exit ?_
    refine pq_exit ?_
    refine pq_exit ?_
    refine pq_in_exit ?_
    refine pq_then ?_
    refine cw_seq ?_
    refine cw_seq ?_
    refine cw_region ?_
    refine ol_pure rfl (op_fieldAddr fld_37_0 rfl) ?_
    refine ol_load rfl (op_load1 one_3 rfl (fun w hw => (hw.bcell (i := 0) rfl).trans rfl)) hS ?_
    refine ol_pure rfl (op_geq rfl rfl) ?_
    refine ol_nil ?_
    refine pq_then ?_
    refine cw_cond rfl (fun h81 => ?_) (fun h81 => ?_)
    ·
     skip
     try simp only [decide_eq_true_eq, decide_eq_false_iff_not, Bool.not_eq_true', Bool.not_eq_false', Bool.not_eq_eq_eq_not, Bool.not_true, Bool.not_false] at h81
     obtain ⟨x, hx'⟩ := Int.eq_ofNat_of_zero_le h81
     have hx : x < rs.length := by omega
     have hrk := (hP.rule _ (List.getElem_mem hx)).1
     obtain ⟨hoR, cs, hcl, ⟨p, q, rfl, hp, hq, hhd⟩, hcells⟩ := h2.el hx
     obtain ⟨op, cp, hpe, hlp, hmp⟩ := hp.elim
     obtain ⟨oq, cq, hqe, hlq, hmq⟩ := hq.elim
     subst hpe
     subst hqe
     have hple := hp.le
     have hrm : RuleOk m.length rs[x] := by rw [hm]; exact hrk
     have hcells2 : ∀ (j : Nat) (u : Value), [Value.int .i64 rs[x].head, .slice op rs[x].pos.length cp, .slice oq rs[x].neg.length cq][j]? = some u → gcell G ((elA oR (s.rule.toNat * 3)).add j) = some u := by rw [hx']; exact hcells
     have hby := stepOk_byrule (m := m) hx' hx
     obtain ⟨hoS, hcS, _⟩ := h4.int hne
     rw [hso, Bool.true_and] at hby
     refine cw_seq ?_
     refine cw_region ?_
     refine ol_pure rfl (op_fieldAddr fld_26_1 rfl) ?_
     refine ol_load rfl (op_load1 one_22 rfl (fun w hw => (hw.bcell (i := 1) rfl).trans rfl)) hS ?_
     refine ol_pure rfl (op_fieldAddr fld_37_0 rfl) ?_
     refine ol_load rfl (op_load1 one_3 rfl (fun w hw => (hw.bcell (i := 0) rfl).trans rfl)) hS ?_
     refine ol_pure rfl (op_indexAddr sl_22 rfl rfl (by omega) (by omega) hoR) ?_
     refine ol_load rfl (op_loadN agg_30 rfl (by rfl) (fun w hw k u hk => hw.gcell (hcells2 _ u hk))) hS ?_
     refine ol_step rfl (op_alloc hS el_30 rfl) ?_
     clear hS
     rintro _ w ⟨b8, rfl, hS⟩
     refine ol_step0  (op_storeN (j := 0) hS sz_30 rfl rfl rfl rfl rfl (by simp [Value.oneCell'])) ?_
     clear hS
     rintro _ w hS; (try simp only [List.nil_append, List.cons_append, List.set] at hS)
     refine ol_nil ?_
     refine pq_then ?_
     refine cw_seq ?_
     refine al_start' hS (hS.take 2) (by kernel_rfl) rfl (fun w hS hT => ?_)
     refine al_take (i := 0) rfl (by kernel_rfl) (by kernel_rfl) (by kernel_rfl) rfl (fun _ _ _ h => h) (op_fieldAddr fld_37_1 rfl) rfl ?_
     refine al_load (i := 1) rfl (by kernel_rfl) (by kernel_rfl) (by kernel_rfl) rfl (fun _ _ _ h => h) (by exact op_load1 one_28 rfl (fun w hw => (hw.bcell (i := 1) rfl).trans rfl)) rfl hT ?_
     refine al_take (i := 2) rfl (by kernel_rfl) (by kernel_rfl) (by kernel_rfl) rfl (fun _ _ _ h => h) (op_len sl_28 rfl rfl) rfl ?_
     refine al_take (i := 3) rfl (by kernel_rfl) (by kernel_rfl) (by kernel_rfl) rfl (fun _ _ _ h => h) (op_eql rfl rfl) rfl ?_
     refine al_take (i := 4) rfl (by kernel_rfl) (by kernel_rfl) (by kernel_rfl) rfl (fun _ _ _ h => h) (op_move rfl) rfl ?_
     refine al_split (fun h92 => ?_) (fun h92 => ?_)
     ·
      skip
      try simp only [decide_eq_true_eq, decide_eq_false_iff_not, Bool.not_eq_true', Bool.not_eq_false', Bool.not_eq_eq_eq_not, Bool.not_true, Bool.not_false] at h92
      have hone : (s.atoms[0] = rs[x].head) = (s.atoms = [rs[x].head]) := one_eq (by omega) hne
      refine al_gtake (i := 5) rfl (by kernel_rfl) (by kernel_rfl) (by kernel_rfl) rfl rfl rfl (fun _ _ _ h => h) (op_fieldAddr fld_37_1 rfl) rfl ?_
      refine al_gload (i := 6) rfl (by kernel_rfl) (by kernel_rfl) (by kernel_rfl) rfl rfl rfl (fun _ _ _ h => h) (by exact op_load1 one_28 rfl (fun w hw => (hw.bcell (i := 1) rfl).trans rfl)) rfl hT ?_
      refine al_gtake (i := 7) rfl (by kernel_rfl) (by kernel_rfl) (by kernel_rfl) rfl rfl rfl (fun _ _ _ h => h) (op_indexN (i := 0) sl_28 rfl rfl (by omega) hoS) rfl ?_
      refine al_gload (i := 8) rfl (by kernel_rfl) (by kernel_rfl) (by kernel_rfl) rfl rfl rfl (fun _ _ _ h => h) (by exact op_load1 one_3 rfl (fun w hw => hw.gcell hcS)) rfl hT ?_
      refine al_gtake (i := 9) rfl (by kernel_rfl) (by kernel_rfl) (by kernel_rfl) rfl rfl rfl (fun _ _ _ h => h) (op_fieldAddr fld_30_0 rfl) rfl ?_
      refine al_gload (i := 10) rfl (by kernel_rfl) (by kernel_rfl) (by kernel_rfl) rfl rfl rfl (fun _ _ _ h => h) (by exact op_load1 one_3 rfl (fun w hw => (hw.bcell (i := 0) rfl).trans rfl)) rfl hT ?_
      refine al_gtake (i := 11) rfl (by kernel_rfl) (by kernel_rfl) (by kernel_rfl) rfl rfl rfl (fun _ _ _ h => h) (op_eql rfl rfl) rfl ?_
      refine al_take (i := 12) rfl (by kernel_rfl) (by kernel_rfl) (by kernel_rfl) rfl (fun _ _ _ h => h) (op_pick_t rfl rfl) rfl ?_
      refine al_take (i := 13) rfl (by kernel_rfl) (by kernel_rfl) (by kernel_rfl) rfl (fun _ _ _ h => h) (op_move rfl) rfl ?_
      refine al_split (fun h101 => ?_) (fun h101 => ?_)
      ·
       skip
       try simp only [decide_eq_true_eq, decide_eq_false_iff_not, Bool.not_eq_true', Bool.not_eq_false', Bool.not_eq_eq_eq_not, Bool.not_true, Bool.not_false] at h101
       refine al_gtake (i := 14) rfl (by kernel_rfl) (by kernel_rfl) (by kernel_rfl) rfl rfl rfl (fun _ _ _ h => h) (op_move rfl) rfl ?_
       refine al_gtake (i := 15) rfl (by kernel_rfl) (by kernel_rfl) (by kernel_rfl) rfl rfl rfl (fun _ _ _ h => h) (op_fieldAddr fld_30_1 rfl) rfl ?_
       refine al_gload (i := 16) rfl (by kernel_rfl) (by kernel_rfl) (by kernel_rfl) rfl rfl rfl (fun _ _ _ h => h) (by exact op_load1 one_28 rfl (fun w hw => (hw.bcell (i := 0) rfl).trans rfl)) rfl hT ?_
       refine al_gstep (i := 17) rfl (by kernel_rfl) rfl rfl rfl (op_call_sc hS cf_27 rfl (R21_All_c G _ hS.hold _ m h3 _ rs[x].pos 2 hp hrm.2.1)) ?_
       clear hS
       rintro _ w ⟨rfl, hS⟩
       have hT := hT.back hS (by first | exact Le.refl _ | assumption) (fun x hx => by try simp only [List.take_succ_cons, List.take_zero, List.mem_cons, List.not_mem_nil, or_false] at hx; (rcases hx with rfl | rfl) <;> simp)
       refine ⟨fun _ _ => hT, ?_⟩
       refine al_take (i := 18) rfl (by kernel_rfl) (by kernel_rfl) (by kernel_rfl) rfl (fun _ _ _ h => h) (op_pick_t rfl rfl) rfl ?_
       refine al_take (i := 19) rfl (by kernel_rfl) (by kernel_rfl) (by kernel_rfl) rfl (fun _ _ _ h => h) (op_move rfl) rfl ?_
       refine al_split (fun h107 => ?_) (fun h107 => ?_)
       ·
        skip
        try simp only [decide_eq_true_eq, decide_eq_false_iff_not, Bool.not_eq_true', Bool.not_eq_false', Bool.not_eq_eq_eq_not, Bool.not_true, Bool.not_false] at h107
        refine al_gtake (i := 20) rfl (by kernel_rfl) (by kernel_rfl) (by kernel_rfl) rfl rfl rfl (fun _ _ _ h => h) (op_move rfl) rfl ?_
        refine al_gtake (i := 21) rfl (by kernel_rfl) (by kernel_rfl) (by kernel_rfl) rfl rfl rfl (fun _ _ _ h => h) (op_fieldAddr fld_30_2 rfl) rfl ?_
        refine al_gload (i := 22) rfl (by kernel_rfl) (by kernel_rfl) (by kernel_rfl) rfl rfl rfl (fun _ _ _ h => h) (by exact op_load1 one_28 rfl (fun w hw => (hw.bcell (i := 0) rfl).trans rfl)) rfl hT ?_
        refine al_gstep (i := 23) rfl (by kernel_rfl) rfl rfl rfl (op_call_sc hS cf_27 rfl (R21_All_c G _ hS.hold _ m h3 _ rs[x].neg 0 hq hrm.2.2)) ?_
        clear hS
        rintro _ w ⟨rfl, hS⟩
        have hT := hT.back hS (by first | exact Le.refl _ | assumption) (fun x hx => by try simp only [List.take_succ_cons, List.take_zero, List.mem_cons, List.not_mem_nil, or_false] at hx; (rcases hx with rfl | rfl) <;> simp)
        refine ⟨fun _ _ => hT, ?_⟩
        refine al_take (i := 24) rfl (by kernel_rfl) (by kernel_rfl) (by kernel_rfl) rfl (fun _ _ _ h => h) (op_pick_t rfl rfl) rfl ?_
        refine al_take (i := 25) rfl (by kernel_rfl) (by kernel_rfl) (by kernel_rfl) rfl (fun _ _ _ h => h) (op_assign rfl) rfl ?_
        refine al_done (by kernel_rfl) ?_
        refine pq_then ?_
        refine cw_ret ?_
        refine pq_ret ?_
        refine ret1 rfl rfl ?_
        exact hS.sc_b (by rw [hby]; simp_all [firesB])
       ·
        skip
        try simp only [decide_eq_true_eq, decide_eq_false_iff_not, Bool.not_eq_true', Bool.not_eq_false', Bool.not_eq_eq_eq_not, Bool.not_true, Bool.not_false] at h107
        refine al_gskip (i := 20) rfl (by kernel_rfl) (by kernel_rfl) (by kernel_rfl) rfl rfl rfl rfl (fun _ _ _ h => h) (fun _ => hT) ?_
        refine al_gskip (i := 21) rfl (by kernel_rfl) (by kernel_rfl) (by kernel_rfl) rfl rfl rfl rfl (fun _ _ _ h => h) (fun _ => hT) ?_
        refine al_gskip (i := 22) rfl (by kernel_rfl) (by kernel_rfl) (by kernel_rfl) rfl rfl rfl rfl (fun _ _ _ h => h) (fun _ => hT) ?_
        refine al_gskip (i := 23) rfl (by kernel_rfl) (by kernel_rfl) (by kernel_rfl) rfl rfl rfl rfl (fun _ _ _ h => h) (fun _ => hT) ?_
        refine al_take (i := 24) rfl (by kernel_rfl) (by kernel_rfl) (by kernel_rfl) rfl (fun _ _ _ h => h) (op_pick_f rfl rfl) rfl ?_
        refine al_take (i := 25) rfl (by kernel_rfl) (by kernel_rfl) (by kernel_rfl) rfl (fun _ _ _ h => h) (op_assign rfl) rfl ?_
        refine al_done (by kernel_rfl) ?_
        refine pq_then ?_
        refine cw_ret ?_
        refine pq_ret ?_
        refine ret1 rfl rfl ?_
        exact hS.sc_b (by rw [hby]; simp_all [firesB])
      ·
       skip
       try simp only [decide_eq_true_eq, decide_eq_false_iff_not, Bool.not_eq_true', Bool.not_eq_false', Bool.not_eq_eq_eq_not, Bool.not_true, Bool.not_false] at h101
       refine al_gskip (i := 14) rfl (by kernel_rfl) (by kernel_rfl) (by kernel_rfl) rfl rfl rfl rfl (fun _ _ _ h => h) (fun _ => hT) ?_
       refine al_gskip (i := 15) rfl (by kernel_rfl) (by kernel_rfl) (by kernel_rfl) rfl rfl rfl rfl (fun _ _ _ h => h) (fun _ => hT) ?_
       refine al_gskip (i := 16) rfl (by kernel_rfl) (by kernel_rfl) (by kernel_rfl) rfl rfl rfl rfl (fun _ _ _ h => h) (fun _ => hT) ?_
       refine al_gskip (i := 17) rfl (by kernel_rfl) (by kernel_rfl) (by kernel_rfl) rfl rfl rfl rfl (fun _ _ _ h => h) (fun _ => hT) ?_
       refine al_take (i := 18) rfl (by kernel_rfl) (by kernel_rfl) (by kernel_rfl) rfl (fun _ _ _ h => h) (op_pick_f rfl rfl) rfl ?_
       refine al_take (i := 19) rfl (by kernel_rfl) (by kernel_rfl) (by kernel_rfl) rfl (fun _ _ _ h => h) (op_move rfl) rfl ?_
       refine al_gskip (i := 20) rfl (by kernel_rfl) (by kernel_rfl) (by kernel_rfl) rfl rfl rfl rfl (fun _ _ _ h => h) (fun _ => hT) ?_
       refine al_gskip (i := 21) rfl (by kernel_rfl) (by kernel_rfl) (by kernel_rfl) rfl rfl rfl rfl (fun _ _ _ h => h) (fun _ => hT) ?_
       refine al_gskip (i := 22) rfl (by kernel_rfl) (by kernel_rfl) (by kernel_rfl) rfl rfl rfl rfl (fun _ _ _ h => h) (fun _ => hT) ?_
       refine al_gskip (i := 23) rfl (by kernel_rfl) (by kernel_rfl) (by kernel_rfl) rfl rfl rfl rfl (fun _ _ _ h => h) (fun _ => hT) ?_
       refine al_take (i := 24) rfl (by kernel_rfl) (by kernel_rfl) (by kernel_rfl) rfl (fun _ _ _ h => h) (op_pick_f rfl rfl) rfl ?_
       refine al_take (i := 25) rfl (by kernel_rfl) (by kernel_rfl) (by kernel_rfl) rfl (fun _ _ _ h => h) (op_assign rfl) rfl ?_
       refine al_done (by kernel_rfl) ?_
       refine pq_then ?_
       refine cw_ret ?_
       refine pq_ret ?_
       refine ret1 rfl rfl ?_
       exact hS.sc_b (by rw [hby, decide_eq_false (by rw [← hone]; exact h101)]; simp)
     ·
      skip
      try simp only [decide_eq_true_eq, decide_eq_false_iff_not, Bool.not_eq_true', Bool.not_eq_false', Bool.not_eq_eq_eq_not, Bool.not_true, Bool.not_false] at h92
      have hne1 : ¬ s.atoms = [rs[x].head] := fun hh => h92 (by rw [hh]; rfl)
      refine al_gskip (i := 5) rfl (by kernel_rfl) (by kernel_rfl) (by kernel_rfl) rfl rfl rfl rfl (fun _ _ _ h => h) (fun _ => hT) ?_
      refine al_gskip (i := 6) rfl (by kernel_rfl) (by kernel_rfl) (by kernel_rfl) rfl rfl rfl rfl (fun _ _ _ h => h) (fun _ => hT) ?_
      refine al_gskip (i := 7) rfl (by kernel_rfl) (by kernel_rfl) (by kernel_rfl) rfl rfl rfl rfl (fun _ _ _ h => h) (fun _ => hT) ?_
      refine al_gskip (i := 8) rfl (by kernel_rfl) (by kernel_rfl) (by kernel_rfl) rfl rfl rfl rfl (fun _ _ _ h => h) (fun _ => hT) ?_
      refine al_gskip (i := 9) rfl (by kernel_rfl) (by kernel_rfl) (by kernel_rfl) rfl rfl rfl rfl (fun _ _ _ h => h) (fun _ => hT) ?_
      refine al_gskip (i := 10) rfl (by kernel_rfl) (by kernel_rfl) (by kernel_rfl) rfl rfl rfl rfl (fun _ _ _ h => h) (fun _ => hT) ?_
      refine al_gskip (i := 11) rfl (by kernel_rfl) (by kernel_rfl) (by kernel_rfl) rfl rfl rfl rfl (fun _ _ _ h => h) (fun _ => hT) ?_
      refine al_take (i := 12) rfl (by kernel_rfl) (by kernel_rfl) (by kernel_rfl) rfl (fun _ _ _ h => h) (op_pick_f rfl rfl) rfl ?_
      refine al_take (i := 13) rfl (by kernel_rfl) (by kernel_rfl) (by kernel_rfl) rfl (fun _ _ _ h => h) (op_move rfl) rfl ?_
      refine al_gskip (i := 14) rfl (by kernel_rfl) (by kernel_rfl) (by kernel_rfl) rfl rfl rfl rfl (fun _ _ _ h => h) (fun _ => hT) ?_
      refine al_gskip (i := 15) rfl (by kernel_rfl) (by kernel_rfl) (by kernel_rfl) rfl rfl rfl rfl (fun _ _ _ h => h) (fun _ => hT) ?_
      refine al_gskip (i := 16) rfl (by kernel_rfl) (by kernel_rfl) (by kernel_rfl) rfl rfl rfl rfl (fun _ _ _ h => h) (fun _ => hT) ?_
      refine al_gskip (i := 17) rfl (by kernel_rfl) (by kernel_rfl) (by kernel_rfl) rfl rfl rfl rfl (fun _ _ _ h => h) (fun _ => hT) ?_
      refine al_take (i := 18) rfl (by kernel_rfl) (by kernel_rfl) (by kernel_rfl) rfl (fun _ _ _ h => h) (op_pick_f rfl rfl) rfl ?_
      refine al_take (i := 19) rfl (by kernel_rfl) (by kernel_rfl) (by kernel_rfl) rfl (fun _ _ _ h => h) (op_move rfl) rfl ?_
      refine al_gskip (i := 20) rfl (by kernel_rfl) (by kernel_rfl) (by kernel_rfl) rfl rfl rfl rfl (fun _ _ _ h => h) (fun _ => hT) ?_
      refine al_gskip (i := 21) rfl (by kernel_rfl) (by kernel_rfl) (by kernel_rfl) rfl rfl rfl rfl (fun _ _ _ h => h) (fun _ => hT) ?_
      refine al_gskip (i := 22) rfl (by kernel_rfl) (by kernel_rfl) (by kernel_rfl) rfl rfl rfl rfl (fun _ _ _ h => h) (fun _ => hT) ?_
      refine al_gskip (i := 23) rfl (by kernel_rfl) (by kernel_rfl) (by kernel_rfl) rfl rfl rfl rfl (fun _ _ _ h => h) (fun _ => hT) ?_
      refine al_take (i := 24) rfl (by kernel_rfl) (by kernel_rfl) (by kernel_rfl) rfl (fun _ _ _ h => h) (op_pick_f rfl rfl) rfl ?_
      refine al_take (i := 25) rfl (by kernel_rfl) (by kernel_rfl) (by kernel_rfl) rfl (fun _ _ _ h => h) (op_assign rfl) rfl ?_
      refine al_done (by kernel_rfl) ?_
      refine pq_then ?_
      refine cw_ret ?_
      refine pq_ret ?_
      refine ret1 rfl rfl ?_
      exact hS.sc_b (by rw [hby, decide_eq_false hne1]; simp)
    ·
     skip
     try simp only [decide_eq_true_eq, decide_eq_false_iff_not, Bool.not_eq_true', Bool.not_eq_false', Bool.not_eq_eq_eq_not, Bool.not_true, Bool.not_false] at h81
     refine cw_skip ?_
     refine pq_then ?_
     refine cw_seq ?_
     refine cw_seq ?_
     refine cw_region ?_
     refine ol_pure rfl (op_assign rfl) ?_
     refine ol_nil ?_
     refine pq_then ?_
     refine cw_block ?_
     refine cw_loop (fun e w n => ∃ (j : Nat) (Gk : GH), e = [(1, .slice oM m.length cM), (3, .pointer (some ⟨b3, 0, none⟩)), (5, .pointer (some ⟨b5, 0, none⟩)), (9, .int .i64 (j : Nat))] ∧ j ≤ s.atoms.length ∧ n = s.atoms.length - j ∧ (∀ (y : Nat) (hy : y < j), y < s.atoms.length → ∀ i ∈ ofI rs (s.atoms.getD y 0), tiedB rs m s.atoms i = true) ∧ Le G Gk ∧ SS G w0 Gk [.blk b5 37 [.int .i64 s.rule, .slice oS s.atoms.length cS], .blk b3 26 [.slice oA atoms.length cA, .slice oR rs.length cR]] w) _ _ (by exact ⟨0, G, rfl, Nat.zero_le _, rfl, fun y hy => absurd hy (Nat.not_lt_zero _), Le.refl _, hS⟩) ((Sub.cons rfl (Sub.cons rfl (Sub.cons rfl (Sub.cons rfl Sub.nil))))) ?_
     clear hS
     rintro e w n ⟨j, Gk, rfl, hj, rfl, hfa, hlk, hS⟩
     refine cw_seq ?_
     refine cw_seq ?_
     refine cw_region ?_
     refine ol_pure rfl (op_move rfl) ?_
     refine ol_pure rfl (op_fieldAddr fld_37_1 rfl) ?_
     refine ol_load rfl (op_load1 one_28 rfl (fun w hw => (hw.bcell (i := 0) rfl).trans rfl)) hS ?_
     refine ol_pure rfl (op_len sl_28 rfl rfl) ?_
     refine ol_pure rfl (op_lss rfl rfl) ?_
     refine ol_nil ?_
     refine pq_then ?_
     refine cw_cond rfl (fun h117 => ?_) (fun h117 => ?_)
     ·
      skip
      try simp only [decide_eq_true_eq, decide_eq_false_iff_not, Bool.not_eq_true', Bool.not_eq_false', Bool.not_eq_eq_eq_not, Bool.not_true, Bool.not_false] at h117
      have hjl : j < s.atoms.length := by omega
      obtain ⟨hoa, hcl, hb⟩ := h4.int hjl
      refine cw_skip ?_
      refine pq_then ?_
      refine cw_seq ?_
      refine cw_block ?_
      refine cw_seq ?_
      refine al_start' hS (hS.take 2) (by kernel_rfl) rfl (fun w hS hT => ?_)
      refine al_load (i := 0) rfl (by kernel_rfl) (by kernel_rfl) (by kernel_rfl) rfl (fun _ _ _ h => h) (by exact op_loadN agg_26 rfl (by rfl) (fun w hw k u hk => (hw.bcell (i := 1) rfl).trans hk)) rfl hT ?_
      refine al_take (i := 1) rfl (by kernel_rfl) (by kernel_rfl) (by kernel_rfl) rfl (fun _ _ _ h => h) (op_fieldAddr fld_37_1 rfl) rfl ?_
      refine al_load (i := 2) rfl (by kernel_rfl) (by kernel_rfl) (by kernel_rfl) rfl (fun _ _ _ h => h) (by exact op_load1 one_28 rfl (fun w hw => (hw.bcell (i := 0) rfl).trans rfl)) rfl hT ?_
      refine al_take (i := 3) rfl (by kernel_rfl) (by kernel_rfl) (by kernel_rfl) rfl (fun _ _ _ h => h) (op_move rfl) rfl ?_
      refine al_take (i := 4) rfl (by kernel_rfl) (by kernel_rfl) (by kernel_rfl) rfl (fun _ _ _ h => h) (op_indexN sl_28 rfl rfl (by omega) hoa) rfl ?_
      refine al_load (i := 5) rfl (by kernel_rfl) (by kernel_rfl) (by kernel_rfl) rfl (fun _ _ _ h => h) (by exact op_load1 one_3 rfl (fun w hw => hw.gcell0 hcl)) rfl hT ?_
      refine al_step (i := 6) rfl (by kernel_rfl) rfl (op_call_fr hS cf_56 rfl (R16_Of_c _ _ hS.hold hE _ _ atoms rs (h1.mono hE hlk) (h2.mono ERule.mono hlk) hP s.atoms[j])) ?_
      clear hS
      rintro v126 w ⟨F126, Gf, hR126, hF126, hf126, hl126, hS⟩
      obtain ⟨o126, c126, rfl, _, _⟩ := hR126.elim
      have hOf := hR126.mono EInt.mono hf126
      have hOle := hOf.le
      have hlf := hlk.trans hl126
      have hT := hT.back hS (by first | exact Le.refl _ | assumption) (fun x hx => by try simp only [List.take_succ_cons, List.take_zero, List.mem_cons, List.not_mem_nil, or_false] at hx; (rcases hx with rfl | rfl) <;> simp)
      refine ⟨fun _ _ => hT, ?_⟩
      refine al_take (i := 7) rfl (by kernel_rfl) (by kernel_rfl) (by kernel_rfl) rfl (fun _ _ _ h => h) (op_assign rfl) rfl ?_
      refine al_done (by kernel_rfl) ?_
      refine pq_then ?_
      refine cw_seq ?_
      refine cw_region ?_
      refine ol_pure rfl (op_assign rfl) ?_
      refine ol_nil ?_
      refine pq_then ?_
      refine cw_block ?_
      refine cw_loop (fun e w n => ∃ (q : Nat), e = [(1, .slice oM m.length cM), (3, .pointer (some ⟨b3, 0, none⟩)), (5, .pointer (some ⟨b5, 0, none⟩)), (9, .int .i64 (j : Nat)), (10, .slice o126 (ofI rs s.atoms[j]).length c126), (11, .int .i64 (q : Nat))] ∧ q ≤ (ofI rs s.atoms[j]).length ∧ n = (ofI rs s.atoms[j]).length - q ∧ (∀ (y : Nat) (hy : y < q), y < (ofI rs s.atoms[j]).length → tiedB rs m s.atoms ((ofI rs s.atoms[j]).getD y 0) = true) ∧ SS G w0 Gf [.blk b5 37 [.int .i64 s.rule, .slice oS s.atoms.length cS], .blk b3 26 [.slice oA atoms.length cA, .slice oR rs.length cR]] w) _ _ (by exact ⟨0, rfl, Nat.zero_le _, rfl, fun y hy => absurd hy (Nat.not_lt_zero _), hS⟩) ((Sub.cons rfl (Sub.cons rfl (Sub.cons rfl (Sub.cons rfl (Sub.cons rfl (Sub.cons rfl Sub.nil))))))) ?_
      clear hS
      rintro e w n ⟨q, rfl, hq0, rfl, hfq, hS⟩
      refine cw_seq ?_
      refine cw_seq ?_
      refine cw_region ?_
      refine ol_pure rfl (op_move rfl) ?_
      refine ol_pure rfl (op_move rfl) ?_
      refine ol_pure rfl (op_len sl_28 rfl rfl) ?_
      refine ol_pure rfl (op_lss rfl rfl) ?_
      refine ol_nil ?_
      refine pq_then ?_
      refine cw_cond rfl (fun h130 => ?_) (fun h130 => ?_)
      ·
       skip
       try simp only [decide_eq_true_eq, decide_eq_false_iff_not, Bool.not_eq_true', Bool.not_eq_false', Bool.not_eq_eq_eq_not, Bool.not_true, Bool.not_false] at h130
       have hql : q < (ofI rs s.atoms[j]).length := by omega
       obtain ⟨hoF, hcF, hbF⟩ := hOf.int hql
       obtain ⟨x, hx, hxe, hxh⟩ := ofI_mem (List.getElem_mem hql)
       have hrk := (hP.rule _ (List.getElem_mem hx)).1
       obtain ⟨hoR, cs, hcl, ⟨p, r, rfl, hp, hq, hhd⟩, hcells⟩ := h2.el hx
       obtain ⟨op, cp, hpe, hlp, hmp⟩ := hp.elim
       obtain ⟨oq, cq, hqe, hlq, hmq⟩ := hq.elim
       subst hpe
       subst hqe
       have hple := hp.le
       have hrm : RuleOk m.length rs[x] := by rw [hm]; exact hrk
       have htd : tiedB rs m s.atoms ((ofI rs s.atoms[j]).getD q 0) = ((hasB m rs[x].pos 0 || hasB m rs[x].neg 2) || rs[x].pos.any (fun p => decide (p ∈ s.atoms))) := by
         have : (ofI rs s.atoms[j]).getD q 0 = (x : Int) := by simp [hql, hxe]
         rw [this, tiedB_at hx]
       have hxe2 : (ofI rs s.atoms[j]).getD q 0 = (ofI rs s.atoms[j])[q] := by simp [hql]
       refine cw_skip ?_
       refine pq_then ?_
       refine cw_seq ?_
       refine cw_block ?_
       refine cw_seq ?_
       refine al_start' hS (hS.take 2) (by kernel_rfl) rfl (fun w hS hT => ?_)
       refine al_take (i := 0) rfl (by kernel_rfl) (by kernel_rfl) (by kernel_rfl) rfl (fun _ _ _ h => h) (op_fieldAddr fld_26_1 rfl) rfl ?_
       refine al_load (i := 1) rfl (by kernel_rfl) (by kernel_rfl) (by kernel_rfl) rfl (fun _ _ _ h => h) (by exact op_load1 one_22 rfl (fun w hw => (hw.bcell (i := 1) rfl).trans rfl)) rfl hT ?_
       refine al_take (i := 2) rfl (by kernel_rfl) (by kernel_rfl) (by kernel_rfl) rfl (fun _ _ _ h => h) (op_move rfl) rfl ?_
       refine al_take (i := 3) rfl (by kernel_rfl) (by kernel_rfl) (by kernel_rfl) rfl (fun _ _ _ h => h) (op_move rfl) rfl ?_
       refine al_take (i := 4) rfl (by kernel_rfl) (by kernel_rfl) (by kernel_rfl) rfl (fun _ _ _ h => h) (op_indexN sl_28 rfl rfl (by omega) hoF) rfl ?_
       refine al_load (i := 5) rfl (by kernel_rfl) (by kernel_rfl) (by kernel_rfl) rfl (fun _ _ _ h => h) (by exact op_load1 one_3 rfl (fun w hw => (hw.gcell hcF).trans (by rw [hxe]))) rfl hT ?_
       refine al_take (i := 6) rfl (by kernel_rfl) (by kernel_rfl) (by kernel_rfl) rfl (fun _ _ _ h => h) (op_indexN sl_22 rfl rfl (by omega) hoR) rfl ?_
       refine al_load (i := 7) rfl (by kernel_rfl) (by kernel_rfl) (by kernel_rfl) rfl (fun _ _ _ h => h) (by exact op_loadN agg_30 rfl (by rfl) (fun w hw k u hk => hw.gcell0 (hcells _ u hk))) rfl hT ?_
       refine al_step (i := 8) rfl (by kernel_rfl) rfl (op_alloc hS el_30 rfl) ?_
       clear hS
       rintro _ w ⟨b12, rfl, hS⟩
       have hT := hT.back hS (by first | exact Le.refl _ | assumption) (fun x hx => by try simp only [List.take_succ_cons, List.take_zero, List.mem_cons, List.not_mem_nil, or_false] at hx; (rcases hx with rfl | rfl) <;> simp)
       refine ⟨fun _ _ => hT, ?_⟩
       refine al_step0 (i := 9) rfl (by kernel_rfl) (op_storeN (j := 0) hS sz_30 rfl rfl rfl rfl rfl (by simp [Value.oneCell'])) ?_
       clear hS
       rintro _ w hS; (try simp only [List.nil_append, List.cons_append, List.set] at hS)
       refine ⟨no_need (by kernel_rfl), ?_⟩
       refine al_done (by kernel_rfl) ?_
       refine pq_then ?_
       refine cw_seq ?_
       refine cw_region ?_
       refine ol_pure rfl (op_move rfl) ?_
       refine ol_pure rfl (op_fieldAddr fld_30_1 rfl) ?_
       refine ol_load rfl (op_load1 one_28 rfl (fun w hw => (hw.bcell (i := 0) rfl).trans rfl)) hS ?_
       refine ol_step rfl (op_call_sc hS cf_57 rfl (R21_Any_c G _ (hS.hold.mono hlf) _ m h3 _ rs[x].pos 0 hp hrm.2.1)) ?_
       clear hS
       rintro _ w ⟨rfl, hS⟩
       refine ol_pure rfl (op_move rfl) ?_
       refine ol_split (fun h145 => ?_) (fun h145 => ?_)
       ·
        skip
        try simp only [decide_eq_true_eq, decide_eq_false_iff_not, Bool.not_eq_true', Bool.not_eq_false', Bool.not_eq_eq_eq_not, Bool.not_true, Bool.not_false] at h145
        refine ol_guard_no rfl rfl rfl rfl ?_
        refine ol_guard_no rfl rfl rfl rfl ?_
        refine ol_guard_no rfl rfl rfl rfl ?_
        refine ol_guard_no rfl rfl rfl rfl ?_
        refine ol_pure rfl (op_pick_t rfl rfl) ?_
        refine ol_pure rfl (op_assign rfl) ?_
        refine ol_nil ?_
        refine pq_then ?_
        refine cw_seq ?_
        refine cw_seq ?_
        refine cw_region ?_
        refine ol_pure rfl (op_assign rfl) ?_
        refine ol_nil ?_
        refine pq_then ?_
        refine cw_block ?_
        refine cw_loop (fun e w n => ∃ (z : Nat) (bb : Bool), e = [(1, .slice oM m.length cM), (3, .pointer (some ⟨b3, 0, none⟩)), (5, .pointer (some ⟨b5, 0, none⟩)), (9, .int .i64 (j : Nat)), (10, .slice o126 (ofI rs s.atoms[j]).length c126), (11, .int .i64 (q : Nat)), (12, .pointer (some ⟨b12, 0, none⟩)), (13, .bool bb), (14, .int .i64 (z : Nat))] ∧ z ≤ rs[x].pos.length ∧ n = rs[x].pos.length - z ∧ bb = ((hasB m rs[x].pos 0 || hasB m rs[x].neg 2) || (rs[x].pos.take z).any (fun p => decide (p ∈ s.atoms))) ∧ SS G w0 Gf [.blk b12 30 [.int .i64 rs[x].head, .slice op rs[x].pos.length cp, .slice oq rs[x].neg.length cq], .blk b5 37 [.int .i64 s.rule, .slice oS s.atoms.length cS], .blk b3 26 [.slice oA atoms.length cA, .slice oR rs.length cR]] w) _ _ (by exact ⟨0, true, rfl, Nat.zero_le _, rfl, by rw [h145]; rfl, hS⟩) ((Sub.cons rfl (Sub.cons rfl (Sub.cons rfl (Sub.cons rfl (Sub.cons rfl (Sub.cons rfl (Sub.cons rfl (Sub.cons rfl (Sub.cons rfl Sub.nil)))))))))) ?_
        clear hS
        rintro e w n ⟨z, bb, rfl, hz, rfl, hbb, hS⟩
        refine cw_seq ?_
        refine cw_seq ?_
        refine cw_region ?_
        refine ol_pure rfl (op_move rfl) ?_
        refine ol_pure rfl (op_fieldAddr fld_30_1 rfl) ?_
        refine ol_load rfl (op_load1 one_28 rfl (fun w hw => (hw.bcell (i := 0) rfl).trans rfl)) hS ?_
        refine ol_pure rfl (op_len sl_28 rfl rfl) ?_
        refine ol_pure rfl (op_lss rfl rfl) ?_
        refine ol_nil ?_
        refine pq_then ?_
        refine cw_cond rfl (fun h155 => ?_) (fun h155 => ?_)
        ·
         skip
         try simp only [decide_eq_true_eq, decide_eq_false_iff_not, Bool.not_eq_true', Bool.not_eq_false', Bool.not_eq_eq_eq_not, Bool.not_true, Bool.not_false] at h155
         have hzl : z < rs[x].pos.length := by omega
         obtain ⟨hoz, hcz, hbz⟩ := hp.int hzl
         have hzs := Pl.any_take_succ (fun p => decide (p ∈ s.atoms)) rs[x].pos z hzl
         refine cw_skip ?_
         refine pq_then ?_
         refine cw_seq ?_
         refine cw_block ?_
         refine al_start' hS (hS.take 2) (by kernel_rfl) rfl (fun w hS hT => ?_)
         refine al_take (i := 0) rfl (by kernel_rfl) (by kernel_rfl) (by kernel_rfl) rfl (fun _ _ _ h => h) (op_move rfl) rfl ?_
         refine al_take (i := 1) rfl (by kernel_rfl) (by kernel_rfl) (by kernel_rfl) rfl (fun _ _ _ h => h) (op_move rfl) rfl ?_
         refine al_split (fun h159 => ?_) (fun h159 => ?_)
         ·
          skip
          try simp only [decide_eq_true_eq, decide_eq_false_iff_not, Bool.not_eq_true', Bool.not_eq_false', Bool.not_eq_eq_eq_not, Bool.not_true, Bool.not_false] at h159
          refine al_gskip (i := 2) rfl (by kernel_rfl) (by kernel_rfl) (by kernel_rfl) rfl rfl rfl rfl (fun _ _ _ h => h) (fun _ => hT) ?_
          refine al_gskip (i := 3) rfl (by kernel_rfl) (by kernel_rfl) (by kernel_rfl) rfl rfl rfl rfl (fun _ _ _ h => h) (fun _ => hT) ?_
          refine al_gskip (i := 4) rfl (by kernel_rfl) (by kernel_rfl) (by kernel_rfl) rfl rfl rfl rfl (fun _ _ _ h => h) (fun _ => hT) ?_
          refine al_gskip (i := 5) rfl (by kernel_rfl) (by kernel_rfl) (by kernel_rfl) rfl rfl rfl rfl (fun _ _ _ h => h) (fun _ => hT) ?_
          refine al_gskip (i := 6) rfl (by kernel_rfl) (by kernel_rfl) (by kernel_rfl) rfl rfl rfl rfl (fun _ _ _ h => h) (fun _ => hT) ?_
          refine al_gskip (i := 7) rfl (by kernel_rfl) (by kernel_rfl) (by kernel_rfl) rfl rfl rfl rfl (fun _ _ _ h => h) (fun _ => hT) ?_
          refine al_gskip (i := 8) rfl (by kernel_rfl) (by kernel_rfl) (by kernel_rfl) rfl rfl rfl rfl (fun _ _ _ h => h) (fun _ => hT) ?_
          refine al_gskip (i := 9) rfl (by kernel_rfl) (by kernel_rfl) (by kernel_rfl) rfl rfl rfl rfl (fun _ _ _ h => h) (fun _ => hT) ?_
          refine al_take (i := 10) rfl (by kernel_rfl) (by kernel_rfl) (by kernel_rfl) rfl (fun _ _ _ h => h) (op_pick_t rfl rfl) rfl ?_
          refine al_take (i := 11) rfl (by kernel_rfl) (by kernel_rfl) (by kernel_rfl) rfl (fun _ _ _ h => h) (op_assign rfl) rfl ?_
          refine al_done (by kernel_rfl) ?_
          refine pq_in_normal ?_
          refine pq_then ?_
          refine cw_region ?_
          refine ol_pure rfl (op_move rfl) ?_
          refine ol_pure rfl (op_add rfl rfl (by omega) (by omega)) ?_
          refine ol_pure rfl (op_assign rfl) ?_
          refine ol_nil ?_
          refine pq_loop _ _ (by exact ⟨z + 1, true, rfl, by omega, rfl, by rw [hzs, ← Bool.or_assoc, ← hbb, h159]; rfl, hS⟩) ((Sub.cons rfl (Sub.cons rfl (Sub.cons rfl (Sub.cons rfl (Sub.cons rfl (Sub.cons rfl (Sub.cons rfl (Sub.cons rfl (Sub.cons rfl Sub.nil)))))))))) (by omega)
         ·
          skip
          try simp only [decide_eq_true_eq, decide_eq_false_iff_not, Bool.not_eq_true', Bool.not_eq_false', Bool.not_eq_eq_eq_not, Bool.not_true, Bool.not_false] at h159
          refine al_gtake (i := 2) rfl (by kernel_rfl) (by kernel_rfl) (by kernel_rfl) rfl rfl rfl (fun _ _ _ h => h) (op_fieldAddr fld_37_1 rfl) rfl ?_
          refine al_gload (i := 3) rfl (by kernel_rfl) (by kernel_rfl) (by kernel_rfl) rfl rfl rfl (fun _ _ _ h => h) (by exact op_load1 one_28 rfl (fun w hw => (hw.bcell (i := 1) rfl).trans rfl)) rfl hT ?_
          refine al_gtake (i := 4) rfl (by kernel_rfl) (by kernel_rfl) (by kernel_rfl) rfl rfl rfl (fun _ _ _ h => h) (op_fieldAddr fld_30_1 rfl) rfl ?_
          refine al_gload (i := 5) rfl (by kernel_rfl) (by kernel_rfl) (by kernel_rfl) rfl rfl rfl (fun _ _ _ h => h) (by exact op_load1 one_28 rfl (fun w hw => (hw.bcell (i := 0) rfl).trans rfl)) rfl hT ?_
          refine al_gtake (i := 6) rfl (by kernel_rfl) (by kernel_rfl) (by kernel_rfl) rfl rfl rfl (fun _ _ _ h => h) (op_move rfl) rfl ?_
          refine al_gtake (i := 7) rfl (by kernel_rfl) (by kernel_rfl) (by kernel_rfl) rfl rfl rfl (fun _ _ _ h => h) (op_indexN sl_28 rfl rfl (by omega) hoz) rfl ?_
          refine al_gload (i := 8) rfl (by kernel_rfl) (by kernel_rfl) (by kernel_rfl) rfl rfl rfl (fun _ _ _ h => h) (by exact op_load1 one_3 rfl (fun w hw => hw.gcell0 hcz)) rfl hT ?_
          refine al_gstep (i := 9) rfl (by kernel_rfl) rfl rfl rfl (op_call_sc hS cf_28 rfl (R21_In_c G _ (hS.hold.mono hlf) _ s.atoms rs[x].pos[z] h4)) ?_
          clear hS
          rintro _ w ⟨rfl, hS⟩
          have hT := hT.back hS (by first | exact Le.refl _ | assumption) (fun x hx => by try simp only [List.take_succ_cons, List.take_zero, List.mem_cons, List.not_mem_nil, or_false] at hx; (rcases hx with rfl | rfl) <;> simp)
          refine ⟨fun _ _ => hT, ?_⟩
          refine al_take (i := 10) rfl (by kernel_rfl) (by kernel_rfl) (by kernel_rfl) rfl (fun _ _ _ h => h) (op_pick_f rfl rfl) rfl ?_
          refine al_take (i := 11) rfl (by kernel_rfl) (by kernel_rfl) (by kernel_rfl) rfl (fun _ _ _ h => h) (op_assign rfl) rfl ?_
          refine al_done (by kernel_rfl) ?_
          refine pq_in_normal ?_
          refine pq_then ?_
          refine cw_region ?_
          refine ol_pure rfl (op_move rfl) ?_
          refine ol_pure rfl (op_add rfl rfl (by omega) (by omega)) ?_
          refine ol_pure rfl (op_assign rfl) ?_
          refine ol_nil ?_
          refine pq_loop _ _ (by exact ⟨z + 1, decide (rs[x].pos[z] ∈ s.atoms), rfl, by omega, rfl, by rw [hzs, ← Bool.or_assoc, ← hbb, h159]; rfl, hS⟩) ((Sub.cons rfl (Sub.cons rfl (Sub.cons rfl (Sub.cons rfl (Sub.cons rfl (Sub.cons rfl (Sub.cons rfl (Sub.cons rfl (Sub.cons rfl Sub.nil)))))))))) (by omega)
        ·
         skip
         try simp only [decide_eq_true_eq, decide_eq_false_iff_not, Bool.not_eq_true', Bool.not_eq_false', Bool.not_eq_eq_eq_not, Bool.not_true, Bool.not_false] at h155
         rw [List.take_of_length_le (show rs[x].pos.length ≤ z by omega), ← htd] at hbb
         refine cw_exit ?_
         refine pq_exit ?_
         refine pq_exit ?_
         refine pq_in_exit ?_
         refine pq_then ?_
         refine cw_seq ?_
         refine cw_region ?_
         refine ol_pure rfl (op_move rfl) ?_
         refine ol_pure rfl (op_not rfl) ?_
         refine ol_nil ?_
         refine pq_then ?_
         refine cw_cond rfl (fun h170 => ?_) (fun h170 => ?_)
         ·
          skip
          try simp only [decide_eq_true_eq, decide_eq_false_iff_not, Bool.not_eq_true', Bool.not_eq_false', Bool.not_eq_eq_eq_not, Bool.not_true, Bool.not_false] at h170
          refine cw_seq ?_
          refine cw_region ?_
          refine ol_pure rfl (op_assign rfl) ?_
          refine ol_nil ?_
          refine pq_then ?_
          refine cw_ret ?_
          refine pq_in_ret ?_
          refine pq_ret ?_
          refine pq_ret ?_
          refine pq_in_ret ?_
          refine pq_in_ret ?_
          refine pq_ret ?_
          refine pq_ret ?_
          refine pq_in_ret ?_
          refine pq_ret ?_
          refine ret1 rfl rfl ?_
          exact hS.sc_b (fit_false (List.getElem_mem hjl) (List.getElem_mem hql) (by rw [← hxe2, ← hbb]; exact h170) (by omega)).symm
         ·
          skip
          try simp only [decide_eq_true_eq, decide_eq_false_iff_not, Bool.not_eq_true', Bool.not_eq_false', Bool.not_eq_eq_eq_not, Bool.not_true, Bool.not_false] at h170
          refine cw_skip ?_
          refine pq_in_normal ?_
          refine pq_then ?_
          refine cw_region ?_
          refine ol_pure rfl (op_move rfl) ?_
          refine ol_pure rfl (op_add rfl rfl (by omega) (by omega)) ?_
          refine ol_pure rfl (op_assign rfl) ?_
          refine ol_nil ?_
          refine pq_loop _ _ (by exact (by
              replace hS := SS.drop [] hS
              refine ⟨q + 1, rfl, by omega, rfl, fun y hy hyl => ?_, hS⟩
              rcases Nat.lt_succ_iff_lt_or_eq.1 hy with hh | hh
              · exact hfq y hh hyl
              · subst hh
                rw [← hbb]
                exact h170)) ((Sub.cons rfl (Sub.cons rfl (Sub.cons rfl (Sub.cons rfl (Sub.cons rfl (Sub.cons rfl Sub.nil))))))) (by omega)
       ·
        skip
        try simp only [decide_eq_true_eq, decide_eq_false_iff_not, Bool.not_eq_true', Bool.not_eq_false', Bool.not_eq_eq_eq_not, Bool.not_true, Bool.not_false] at h145
        refine ol_guard_pure rfl rfl rfl (op_move rfl) ?_
        refine ol_guard_pure rfl rfl rfl (op_fieldAddr fld_30_2 rfl) ?_
        refine ol_guard_load rfl rfl rfl (op_load1 one_28 rfl (fun w hw => (hw.bcell (i := 0) rfl).trans rfl)) hS ?_
        refine ol_guard_step rfl rfl rfl (op_call_sc hS cf_57 rfl (R21_Any_c G _ (hS.hold.mono hlf) _ m h3 _ rs[x].neg 2 hq hrm.2.2)) ?_
        clear hS
        rintro _ w ⟨rfl, hS⟩
        refine ol_pure rfl (op_pick_f rfl rfl) ?_
        refine ol_pure rfl (op_assign rfl) ?_
        refine ol_nil ?_
        refine pq_then ?_
        refine cw_seq ?_
        refine cw_seq ?_
        refine cw_region ?_
        refine ol_pure rfl (op_assign rfl) ?_
        refine ol_nil ?_
        refine pq_then ?_
        refine cw_block ?_
        refine cw_loop (fun e w n => ∃ (z : Nat) (bb : Bool), e = [(1, .slice oM m.length cM), (3, .pointer (some ⟨b3, 0, none⟩)), (5, .pointer (some ⟨b5, 0, none⟩)), (9, .int .i64 (j : Nat)), (10, .slice o126 (ofI rs s.atoms[j]).length c126), (11, .int .i64 (q : Nat)), (12, .pointer (some ⟨b12, 0, none⟩)), (13, .bool bb), (14, .int .i64 (z : Nat))] ∧ z ≤ rs[x].pos.length ∧ n = rs[x].pos.length - z ∧ bb = ((hasB m rs[x].pos 0 || hasB m rs[x].neg 2) || (rs[x].pos.take z).any (fun p => decide (p ∈ s.atoms))) ∧ SS G w0 Gf [.blk b12 30 [.int .i64 rs[x].head, .slice op rs[x].pos.length cp, .slice oq rs[x].neg.length cq], .blk b5 37 [.int .i64 s.rule, .slice oS s.atoms.length cS], .blk b3 26 [.slice oA atoms.length cA, .slice oR rs.length cR]] w) _ _ (by exact ⟨0, hasB m rs[x].neg 2, rfl, Nat.zero_le _, rfl, by rw [h145]; simp, hS⟩) ((Sub.cons rfl (Sub.cons rfl (Sub.cons rfl (Sub.cons rfl (Sub.cons rfl (Sub.cons rfl (Sub.cons rfl (Sub.cons rfl (Sub.cons rfl Sub.nil)))))))))) ?_
        clear hS
        rintro e w n ⟨z, bb, rfl, hz, rfl, hbb, hS⟩
        refine cw_seq ?_
        refine cw_seq ?_
        refine cw_region ?_
        refine ol_pure rfl (op_move rfl) ?_
        refine ol_pure rfl (op_fieldAddr fld_30_1 rfl) ?_
        refine ol_load rfl (op_load1 one_28 rfl (fun w hw => (hw.bcell (i := 0) rfl).trans rfl)) hS ?_
        refine ol_pure rfl (op_len sl_28 rfl rfl) ?_
        refine ol_pure rfl (op_lss rfl rfl) ?_
        refine ol_nil ?_
        refine pq_then ?_
        refine cw_cond rfl (fun h155 => ?_) (fun h155 => ?_)
        ·
         skip
         try simp only [decide_eq_true_eq, decide_eq_false_iff_not, Bool.not_eq_true', Bool.not_eq_false', Bool.not_eq_eq_eq_not, Bool.not_true, Bool.not_false] at h155
         have hzl : z < rs[x].pos.length := by omega
         obtain ⟨hoz, hcz, hbz⟩ := hp.int hzl
         have hzs := Pl.any_take_succ (fun p => decide (p ∈ s.atoms)) rs[x].pos z hzl
         refine cw_skip ?_
         refine pq_then ?_
         refine cw_seq ?_
         refine cw_block ?_
         refine al_start' hS (hS.take 2) (by kernel_rfl) rfl (fun w hS hT => ?_)
         refine al_take (i := 0) rfl (by kernel_rfl) (by kernel_rfl) (by kernel_rfl) rfl (fun _ _ _ h => h) (op_move rfl) rfl ?_
         refine al_take (i := 1) rfl (by kernel_rfl) (by kernel_rfl) (by kernel_rfl) rfl (fun _ _ _ h => h) (op_move rfl) rfl ?_
         refine al_split (fun h159 => ?_) (fun h159 => ?_)
         ·
          skip
          try simp only [decide_eq_true_eq, decide_eq_false_iff_not, Bool.not_eq_true', Bool.not_eq_false', Bool.not_eq_eq_eq_not, Bool.not_true, Bool.not_false] at h159
          refine al_gskip (i := 2) rfl (by kernel_rfl) (by kernel_rfl) (by kernel_rfl) rfl rfl rfl rfl (fun _ _ _ h => h) (fun _ => hT) ?_
          refine al_gskip (i := 3) rfl (by kernel_rfl) (by kernel_rfl) (by kernel_rfl) rfl rfl rfl rfl (fun _ _ _ h => h) (fun _ => hT) ?_
          refine al_gskip (i := 4) rfl (by kernel_rfl) (by kernel_rfl) (by kernel_rfl) rfl rfl rfl rfl (fun _ _ _ h => h) (fun _ => hT) ?_
          refine al_gskip (i := 5) rfl (by kernel_rfl) (by kernel_rfl) (by kernel_rfl) rfl rfl rfl rfl (fun _ _ _ h => h) (fun _ => hT) ?_
          refine al_gskip (i := 6) rfl (by kernel_rfl) (by kernel_rfl) (by kernel_rfl) rfl rfl rfl rfl (fun _ _ _ h => h) (fun _ => hT) ?_
          refine al_gskip (i := 7) rfl (by kernel_rfl) (by kernel_rfl) (by kernel_rfl) rfl rfl rfl rfl (fun _ _ _ h => h) (fun _ => hT) ?_
          refine al_gskip (i := 8) rfl (by kernel_rfl) (by kernel_rfl) (by kernel_rfl) rfl rfl rfl rfl (fun _ _ _ h => h) (fun _ => hT) ?_
          refine al_gskip (i := 9) rfl (by kernel_rfl) (by kernel_rfl) (by kernel_rfl) rfl rfl rfl rfl (fun _ _ _ h => h) (fun _ => hT) ?_
          refine al_take (i := 10) rfl (by kernel_rfl) (by kernel_rfl) (by kernel_rfl) rfl (fun _ _ _ h => h) (op_pick_t rfl rfl) rfl ?_
          refine al_take (i := 11) rfl (by kernel_rfl) (by kernel_rfl) (by kernel_rfl) rfl (fun _ _ _ h => h) (op_assign rfl) rfl ?_
          refine al_done (by kernel_rfl) ?_
          refine pq_in_normal ?_
          refine pq_then ?_
          refine cw_region ?_
          refine ol_pure rfl (op_move rfl) ?_
          refine ol_pure rfl (op_add rfl rfl (by omega) (by omega)) ?_
          refine ol_pure rfl (op_assign rfl) ?_
          refine ol_nil ?_
          refine pq_loop _ _ (by exact ⟨z + 1, true, rfl, by omega, rfl, by rw [hzs, ← Bool.or_assoc, ← hbb, h159]; rfl, hS⟩) ((Sub.cons rfl (Sub.cons rfl (Sub.cons rfl (Sub.cons rfl (Sub.cons rfl (Sub.cons rfl (Sub.cons rfl (Sub.cons rfl (Sub.cons rfl Sub.nil)))))))))) (by omega)
         ·
          skip
          try simp only [decide_eq_true_eq, decide_eq_false_iff_not, Bool.not_eq_true', Bool.not_eq_false', Bool.not_eq_eq_eq_not, Bool.not_true, Bool.not_false] at h159
          refine al_gtake (i := 2) rfl (by kernel_rfl) (by kernel_rfl) (by kernel_rfl) rfl rfl rfl (fun _ _ _ h => h) (op_fieldAddr fld_37_1 rfl) rfl ?_
          refine al_gload (i := 3) rfl (by kernel_rfl) (by kernel_rfl) (by kernel_rfl) rfl rfl rfl (fun _ _ _ h => h) (by exact op_load1 one_28 rfl (fun w hw => (hw.bcell (i := 1) rfl).trans rfl)) rfl hT ?_
          refine al_gtake (i := 4) rfl (by kernel_rfl) (by kernel_rfl) (by kernel_rfl) rfl rfl rfl (fun _ _ _ h => h) (op_fieldAddr fld_30_1 rfl) rfl ?_
          refine al_gload (i := 5) rfl (by kernel_rfl) (by kernel_rfl) (by kernel_rfl) rfl rfl rfl (fun _ _ _ h => h) (by exact op_load1 one_28 rfl (fun w hw => (hw.bcell (i := 0) rfl).trans rfl)) rfl hT ?_
          refine al_gtake (i := 6) rfl (by kernel_rfl) (by kernel_rfl) (by kernel_rfl) rfl rfl rfl (fun _ _ _ h => h) (op_move rfl) rfl ?_
          refine al_gtake (i := 7) rfl (by kernel_rfl) (by kernel_rfl) (by kernel_rfl) rfl rfl rfl (fun _ _ _ h => h) (op_indexN sl_28 rfl rfl (by omega) hoz) rfl ?_
          refine al_gload (i := 8) rfl (by kernel_rfl) (by kernel_rfl) (by kernel_rfl) rfl rfl rfl (fun _ _ _ h => h) (by exact op_load1 one_3 rfl (fun w hw => hw.gcell0 hcz)) rfl hT ?_
          refine al_gstep (i := 9) rfl (by kernel_rfl) rfl rfl rfl (op_call_sc hS cf_28 rfl (R21_In_c G _ (hS.hold.mono hlf) _ s.atoms rs[x].pos[z] h4)) ?_
          clear hS
          rintro _ w ⟨rfl, hS⟩
          have hT := hT.back hS (by first | exact Le.refl _ | assumption) (fun x hx => by try simp only [List.take_succ_cons, List.take_zero, List.mem_cons, List.not_mem_nil, or_false] at hx; (rcases hx with rfl | rfl) <;> simp)
          refine ⟨fun _ _ => hT, ?_⟩
          refine al_take (i := 10) rfl (by kernel_rfl) (by kernel_rfl) (by kernel_rfl) rfl (fun _ _ _ h => h) (op_pick_f rfl rfl) rfl ?_
          refine al_take (i := 11) rfl (by kernel_rfl) (by kernel_rfl) (by kernel_rfl) rfl (fun _ _ _ h => h) (op_assign rfl) rfl ?_
          refine al_done (by kernel_rfl) ?_
          refine pq_in_normal ?_
          refine pq_then ?_
          refine cw_region ?_
          refine ol_pure rfl (op_move rfl) ?_
          refine ol_pure rfl (op_add rfl rfl (by omega) (by omega)) ?_
          refine ol_pure rfl (op_assign rfl) ?_
          refine ol_nil ?_
          refine pq_loop _ _ (by exact ⟨z + 1, decide (rs[x].pos[z] ∈ s.atoms), rfl, by omega, rfl, by rw [hzs, ← Bool.or_assoc, ← hbb, h159]; rfl, hS⟩) ((Sub.cons rfl (Sub.cons rfl (Sub.cons rfl (Sub.cons rfl (Sub.cons rfl (Sub.cons rfl (Sub.cons rfl (Sub.cons rfl (Sub.cons rfl Sub.nil)))))))))) (by omega)
        ·
         skip
         try simp only [decide_eq_true_eq, decide_eq_false_iff_not, Bool.not_eq_true', Bool.not_eq_false', Bool.not_eq_eq_eq_not, Bool.not_true, Bool.not_false] at h155
         rw [List.take_of_length_le (show rs[x].pos.length ≤ z by omega), ← htd] at hbb
         refine cw_exit ?_
         refine pq_exit ?_
         refine pq_exit ?_
         refine pq_in_exit ?_
         refine pq_then ?_
         refine cw_seq ?_
         refine cw_region ?_
         refine ol_pure rfl (op_move rfl) ?_
         refine ol_pure rfl (op_not rfl) ?_
         refine ol_nil ?_
         refine pq_then ?_
         refine cw_cond rfl (fun h170 => ?_) (fun h170 => ?_)
         ·
          skip
          try simp only [decide_eq_true_eq, decide_eq_false_iff_not, Bool.not_eq_true', Bool.not_eq_false', Bool.not_eq_eq_eq_not, Bool.not_true, Bool.not_false] at h170
          refine cw_seq ?_
          refine cw_region ?_
          refine ol_pure rfl (op_assign rfl) ?_
          refine ol_nil ?_
          refine pq_then ?_
          refine cw_ret ?_
          refine pq_in_ret ?_
          refine pq_ret ?_
          refine pq_ret ?_
          refine pq_in_ret ?_
          refine pq_in_ret ?_
          refine pq_ret ?_
          refine pq_ret ?_
          refine pq_in_ret ?_
          refine pq_ret ?_
          refine ret1 rfl rfl ?_
          exact hS.sc_b (fit_false (List.getElem_mem hjl) (List.getElem_mem hql) (by rw [← hxe2, ← hbb]; exact h170) (by omega)).symm
         ·
          skip
          try simp only [decide_eq_true_eq, decide_eq_false_iff_not, Bool.not_eq_true', Bool.not_eq_false', Bool.not_eq_eq_eq_not, Bool.not_true, Bool.not_false] at h170
          refine cw_skip ?_
          refine pq_in_normal ?_
          refine pq_then ?_
          refine cw_region ?_
          refine ol_pure rfl (op_move rfl) ?_
          refine ol_pure rfl (op_add rfl rfl (by omega) (by omega)) ?_
          refine ol_pure rfl (op_assign rfl) ?_
          refine ol_nil ?_
          refine pq_loop _ _ (by exact (by
              replace hS := SS.drop [] hS
              refine ⟨q + 1, rfl, by omega, rfl, fun y hy hyl => ?_, hS⟩
              rcases Nat.lt_succ_iff_lt_or_eq.1 hy with hh | hh
              · exact hfq y hh hyl
              · subst hh
                rw [← hbb]
                exact h170)) ((Sub.cons rfl (Sub.cons rfl (Sub.cons rfl (Sub.cons rfl (Sub.cons rfl (Sub.cons rfl Sub.nil))))))) (by omega)
      ·
       skip
       try simp only [decide_eq_true_eq, decide_eq_false_iff_not, Bool.not_eq_true', Bool.not_eq_false', Bool.not_eq_eq_eq_not, Bool.not_true, Bool.not_false] at h130
       refine cw_exit ?_
       refine pq_exit ?_
       refine pq_exit ?_
       refine pq_in_exit ?_
       refine pq_in_normal ?_
       refine pq_then ?_
       refine cw_region ?_
       refine ol_pure rfl (op_move rfl) ?_
       refine ol_pure rfl (op_add rfl rfl (by omega) (by omega)) ?_
       refine ol_pure rfl (op_assign rfl) ?_
       refine ol_nil ?_
       refine pq_loop _ _ (by exact ⟨j + 1, Gf, rfl, by omega, rfl, fun y hy hyl => (by
             rcases Nat.lt_succ_iff_lt_or_eq.1 hy with hh | hh
             · exact hfa y hh hyl
             · subst hh
               rw [show s.atoms.getD y 0 = s.atoms[y] from by simp [hyl]]
               intro i hi
               obtain ⟨t, ht, rfl⟩ := List.getElem_of_mem hi
               have h9 := hfq t (by omega) ht
               rwa [show (ofI rs s.atoms[y]).getD t 0 = (ofI rs s.atoms[y])[t] from by simp [ht]] at h9), hlf, hS⟩) ((Sub.cons rfl (Sub.cons rfl (Sub.cons rfl (Sub.cons rfl Sub.nil))))) (by omega)
     ·
      skip
      try simp only [decide_eq_true_eq, decide_eq_false_iff_not, Bool.not_eq_true', Bool.not_eq_false', Bool.not_eq_eq_eq_not, Bool.not_true, Bool.not_false] at h117
      refine cw_exit ?_
      refine pq_exit ?_
      refine pq_exit ?_
      refine pq_in_exit ?_
      refine pq_then ?_
      refine cw_seq ?_
      refine cw_region ?_
      refine ol_pure rfl (op_fieldAddr fld_37_0 rfl) ?_
      refine ol_load rfl (op_load1 one_3 rfl (fun w hw => (hw.bcell (i := 0) rfl).trans rfl)) hS ?_
      refine ol_pure rfl (op_eql rfl rfl) ?_
      refine ol_pure rfl (op_assign rfl) ?_
      refine ol_nil ?_
      refine pq_then ?_
      refine cw_ret ?_
      refine ret1 rfl rfl ?_
      exact hS.sc_b (by
        symm
        refine fit_true hso (fun a ha => ?_) (by omega)
        obtain ⟨y, hy, rfl⟩ := List.getElem_of_mem ha
        have := hfa y (by omega) hy
        rwa [show s.atoms.getD y 0 = s.atoms[y] from by simp [hy]] at this)
end Go.Proofs.Ytmkgechdfimfnaa.K
