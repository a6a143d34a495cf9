/-
  Heaps: which slots a place leads to.
  No condition but the premises that each theorem names.
-/
import Derived.Test.YtnmkffkalnkbbaaHp1
namespace Go.Proofs.Ytnmkffkalnkbbaa.K
open Go Go.RowKit
set_option linter.unusedVariables false
set_option linter.unusedSimpArgs false

open Pl
theorem needS_in {n : Nat} {S : List Bool} {R : List Int} {a : Int} (h0 : 0 ≤ a) (h1 : a < n) : needS n (S, R) a = if atB S a = false then (S.set a.toNat true, R ++ [a]) else (S, R) := by
  unfold needS
  by_cases h : atB S a = false
  · rw [if_pos ⟨h0, h1, h⟩, if_pos h]
  · rw [if_neg (fun hh => h hh.2.2), if_neg h]
theorem foldl_succ {α β : Type} (f : β → α → β) (b : β) {l : List α} {k : Nat} (h : k < l.length) : (l.take (k + 1)).foldl f b = f ((l.take k).foldl f b) l[k] := by
  rw [List.take_succ_eq_append_getElem h, List.foldl_append]
  rfl
theorem needS_bnd {n : Nat} {l : List Int} (hl : ∀ x ∈ l, 0 ≤ x ∧ x < n) : ∀ (st : List Bool × List Int), st.1.length = n → (∀ x ∈ st.2, 0 ≤ x ∧ x < n) → (l.foldl (needS n) st).1.length = n ∧ ∀ x ∈ (l.foldl (needS n) st).2, 0 ≤ x ∧ x < n := by
  induction l with
  | nil => exact fun st h1 h2 => ⟨h1, h2⟩
  | cons a l ih =>
    intro st h1 h2
    rw [List.foldl_cons]
    refine ih (fun x hx => hl x (by simp [hx])) _ ((needS_len n st a).1.trans h1) fun x hx => ?_
    unfold needS at hx
    split at hx
    · rcases List.mem_append.1 hx with hx | hx
      · exact h2 x hx
      · have : x = a := by simpa using hx
        rw [this]; exact hl a (by simp)
    · exact h2 x hx
theorem needS_flen (n : Nat) : ∀ (l : List Int) (st : List Bool × List Int), (l.foldl (needS n) st).2.length ≤ st.2.length + l.length
  | [], _ => Nat.le_refl _
  | a :: l, st => by
    rw [List.foldl_cons]
    have h1 := needS_flen n l (needS n st a)
    have h2 := (needS_len n st a).2
    rw [List.length_cons]
    omega

set_option maxRecDepth 100000 in
set_option maxHeartbeats 1000000 in

theorem R08_Reach_c (G : GH) (w0 : World) (hG : Holds G w0) (hv : Value) (cs : List Cell) (tr : List Int) (room : Int) (hh : EHeap G hv cs tr room) (p : Nat) (hp : p < cs.length) (hs : ShOk cs) (hn : cs.length ≤ 1000000) :
   Calls Try.prog 27 #[hv, .int .i64 (p : Nat)] w0 (Rt noG w0 (fun G v => RSl 1 EBool G v (liveB cs [(p : Int)]))) := by
 have hh0 := hh
 obtain ⟨oc, cc, ot, ct, rfl, h1, h2⟩ := hh
 have hle := h1.le
 have hle2 := h2.le
 refine enter Try.func27 rfl (N := 58) rfl (Nat.le_of_ble_eq_true rfl) ?_
 have hS := SS.init hG
 refine cw_seq (cw_region ?_)
 refine ol_step rfl (op_box hS rfl rfl) ?_
 clear hS
 rintro _ w ⟨b2, rfl, hS⟩
 refine ol_pure rfl (op_assign rfl) (ol_nil (pq_then (cw_seq (cw_region (ol_pure rfl (op_fieldAddr fld_28_0 rfl) (ol_load rfl (op_load1 one_25 rfl (fun w hw => (hw.bcell (i := 0) rfl).trans rfl)) hS (ol_pure rfl (op_len sl_25 rfl rfl) ?_)))))))
 refine ol_step rfl (op_makeSlice (n := cs.length) hS sl_34 el_4 rfl rfl rfl (by omega) (by unfold maxLen; omega)) ?_
 clear hS
 rintro _ w ⟨seen, rfl, hS⟩
 refine ol_pure rfl (op_move rfl) ?_
 refine ol_step rfl (op_buildSlice (el := 3) (is := [0]) (xs := [.tmp 13]) (sz := 1) (cs := [.int .i64 (p : Nat)]) hS rfl rfl (fun w => by kernel_rfl) rfl (by decide)) ?_
 clear hS
 rintro _ w ⟨row, rfl, hS⟩
 refine ol_pure rfl (op_assign rfl) (ol_pure rfl (op_assign rfl) (ol_nil (pq_then (cw_seq (cw_region (ol_pure rfl (op_move rfl) (ol_pure rfl (op_move rfl) ?_)))))))
 have hop := (hS.news (j := 1) rfl (p * 1) _ (List.getElem?_eq_getElem (by simpa using hp))).1
 refine ol_pure rfl (op_indexN sl_34 rfl rfl (by omega) hop) ?_
 refine ol_step0  (op_storeR (j := 1) (k := p * 1) hS sz_4 rfl rfl rfl rfl (by simpa using hp)) ?_
 clear hS
 rintro _ w hS; (try simp only [List.nil_append, List.cons_append, List.set] at hS)
 rw [Nat.mul_one, show (List.replicate cs.length (Value.bool false)).set p (.bool true) = ((List.replicate cs.length false).set p true).map Value.bool from by simp [List.map_set]] at hS
 have hst0 : needS cs.length (List.replicate cs.length false, []) (p : Int) = ((List.replicate cs.length false).set p true, [(p : Int)]) := by
   rw [needS_in (by omega) (by omega), if_pos (by simp [atB_nat, hp])]
   rfl
 have hW0 := (Wk.start cs [(p : Int)]).need (a := (p : Int)) (fun _ _ => Der.mk (r := ⟨(p : Int), [], []⟩) (List.mem_append.2 (.inr (rootR_mem (by simp) (by omega) (by omega)))) (by simp))
 rw [hst0] at hW0
 obtain ⟨hW1, hW2, hW3, hW4⟩ := hW0
 have hW5 := hW2 (by omega) (by omega)
 refine ol_nil (pq_then (cw_seq (cw_block ?_)))
 have hcur := Le.refl G
 refine cw_loop (fun e w n => ∃ (Gc : GH) (o6 : Option Addr) (c6 : Nat) (S : List Bool) (R : List Int), e = [(2, .pointer (some ⟨b2, 0, none⟩)), (5, .slice seen cs.length cs.length), (6, .slice o6 R.length c6)] ∧ Le G Gc ∧ Wk cs [(p : Int)] S R [] ∧ R.length ≤ 2 * cntB S ∧ atB S p = true ∧ n = 2 * (cs.length - cntB S) + R.length ∧ SS G w0 Gc [.row o6 R.length c6 3 1 (R.map (Value.int .i64)), .row seen cs.length cs.length 4 1 (S.map Value.bool), .blk b2 28 [.slice oc cs.length cc, .slice ot tr.length ct, .int .i64 room]] w) _ _ (by exact ⟨G, row, 1, _, [(p : Int)], rfl, hcur, hW1, by simp at hW4 ⊢; omega, hW5, rfl, hS⟩) ((Sub.cons rfl (Sub.cons rfl (Sub.cons rfl Sub.nil)))) ?_
 clear hS
 rintro e w n ⟨Gc, o6, c6, S, R, rfl, hcur, hW, hRl, hSp, rfl, hS⟩
 refine cw_seq (cw_seq (cw_region (ol_pure rfl (op_move rfl) (ol_pure rfl (op_len sl_26 rfl rfl) (ol_pure rfl (op_gtr rfl rfl) (ol_nil (pq_then ?_)))))))
 refine cw_cond rfl (fun h20 => ?_) (fun h20 => ?_)
 ·
  try simp only [dqT, dqF, dq1, dq2, dq3, dq4, dq5] at h20
  obtain ⟨x, R2, rfl⟩ : ∃ x R2, R = x :: R2 := by
    cases R with
    | nil => simp at h20
    | cons x y => exact ⟨x, y, rfl⟩
  have hx := hW.todo_ x (by simp)
  obtain ⟨q, rfl⟩ := Int.eq_ofNat_of_zero_le hx.1.1
  have hq : q < cs.length := by omega
  have hqc : ((((q : Nat) : Int) :: R2).map (Value.int .i64))[0 * 1]? = some (.int .i64 (q : Nat)) := rfl
  have hoq := (hS.news (j := 0) rfl _ _ hqc).1
  simp only [List.length_cons] at hS hRl
  have hcS := cntB_le S
  have hWl := hW.len
  refine cw_skip (pq_then (cw_block (cw_seq ?_)))
  refine al_start' hS (hS.take 3) (by kernel_rfl) rfl (fun w hS hT => ?_)
  refine al_load (i := 0) rfl (by kernel_rfl) (by kernel_rfl) (by kernel_rfl) rfl (fun _ _ _ h => h) (by exact op_loadN agg_28 rfl (by rfl) (fun w hw k u hk => (hw.bcell (i := 2) rfl).trans hk)) rfl hT (al_take (i := 1) rfl (by kernel_rfl) (by kernel_rfl) (by kernel_rfl) rfl (fun _ _ _ h => h) (op_move rfl) rfl (al_take (i := 2) rfl (by kernel_rfl) (by kernel_rfl) (by kernel_rfl) rfl (fun _ _ _ h => h) (op_indexN (i := 0) sl_26 rfl rfl (by simp) hoq) rfl (al_load (i := 3) rfl (by kernel_rfl) (by kernel_rfl) (by kernel_rfl) rfl (fun _ _ _ h => h) (by exact op_load1 one_3 rfl (fun w hw => hw.rcell (i := 0) rfl hqc)) rfl hT ?_)))
  refine al_step (i := 4) rfl (by kernel_rfl) rfl (op_call_fr hS cf_57 rfl (R08_Leads_c _ _ hS.hold _ cs tr room (hh0.mono hcur) q hq hs)) ?_
  clear hS
  rintro v25 w ⟨F25, G25, hR25, hF25, hf25, hl25, hS⟩
  generalize hLe : leadsI cs (q : Int) = L at hR25
  have hLr : ∀ x ∈ L, 0 ≤ x ∧ x < cs.length := fun x hx => leads_range hs hq (by rw [hLe]; exact hx)
  obtain ⟨o7, c7, rfl, hl7, hm7⟩ := hR25.elim
  have hLl : L.length ≤ 1000000 := by
    rw [← hLe, leadsI_at hq]
    have hso := hs q hq
    unfold SlotOk at hso
    split
    · simp
    · split
      · simp; omega
      · simp
  replace hR25 := hR25.mono EInt.mono hf25
  replace hcur := hcur.trans hl25
  refine ⟨no_need (by kernel_rfl), ?_⟩
  refine al_take (i := 5) rfl (by kernel_rfl) (by kernel_rfl) (by kernel_rfl) rfl (fun _ _ _ h => h) (op_assign rfl) rfl (al_done (by kernel_rfl) (pq_then (cw_seq (cw_region ?_))))
  refine ol_step rfl (op_buildSlice (el := 3) (is := []) (xs := []) (sz := 1) (cs := []) hS rfl rfl (fun w => by kernel_rfl) rfl (by decide)) ?_
  clear hS
  rintro _ w ⟨r2, rfl, hS⟩
  refine ol_pure rfl (op_move rfl) (ol_pure rfl (op_slice_l (l := 1) sl_26 rfl rfl (by simp)) ?_)
  replace hS := SS.cutRow [_] hS
  simp only [List.nil_append, List.cons_append, List.map_cons, List.drop_succ_cons, List.drop_zero] at hS
  have hWp := hW.pop (p := (q : Int)) (rest := R2) (fun x hx => (List.mem_cons.1 hx).elim .inr .inl) (fun x hx => by simp [hx])
  refine ol_step rfl (op_append (j := 0) (m := R2.length) hS sl_26 el_3 rfl rfl rfl rfl rfl (by simp) (by decide) (hS.news (j := 1) rfl) (by simp [Value.oneCell']) (by omega) (by unfold maxLen; omega)) ?_
  clear hS
  rintro _ w ⟨rowb, c_rowb, rfl, hS⟩; (try simp only [List.nil_append, List.cons_append, List.set] at hS); replace hS := SS.drop [_] hS; (try simp only [List.nil_append, List.cons_append] at hS)
  rw [Nat.zero_add] at hS
  refine ol_pure rfl (op_assign rfl) (ol_nil (pq_then (cw_seq (cw_region (ol_pure rfl (op_assign rfl) (ol_nil (pq_then ?_)))))))
  refine cw_block ?_
  refine cw_loop (fun e w n => ∃ (o6 : Option Addr) (l6 c6 k : Nat) (S3 : List Bool) (R3 : List Int), e = [(2, .pointer (some ⟨b2, 0, none⟩)), (5, .slice seen cs.length cs.length), (6, .slice o6 l6 c6), (7, .slice o7 L.length c7), (8, .int .i64 (k : Nat))] ∧ l6 = R3.length ∧ k ≤ L.length ∧ n = L.length - k ∧ S3 = ((L.take k).foldl (needS cs.length) (S, R2)).1 ∧ R3 = ((L.take k).foldl (needS cs.length) (S, R2)).2 ∧ SS G w0 G25 [.row o6 R3.length c6 3 1 (R3.map (Value.int .i64)), .row seen cs.length cs.length 4 1 (S3.map Value.bool), .blk b2 28 [.slice oc cs.length cc, .slice ot tr.length ct, .int .i64 room]] w) _ _ (by exact ⟨_, _, _, 0, S, R2, rfl, Nat.zero_add _, Nat.zero_le _, rfl, rfl, rfl, hS⟩) ((Sub.cons rfl (Sub.cons rfl (Sub.cons rfl (Sub.cons rfl (Sub.cons rfl Sub.nil)))))) ?_
  clear hS
  rintro e w n ⟨o6, l6, c6, k, S3, R3, rfl, rfl, hk, rfl, hS3, hR3, hS⟩
  refine cw_seq (cw_seq (cw_region (ol_pure rfl (op_move rfl) (ol_pure rfl (op_move rfl) (ol_pure rfl (op_len sl_26 rfl rfl) (ol_pure rfl (op_lss rfl rfl) (ol_nil ?_)))))))
  refine pq_then ?_
  refine cw_cond rfl (fun h33 => ?_) (fun h33 => ?_)
  ·
   try simp only [dqT, dqF, dq1, dq2, dq3, dq4, dq5] at h33
   have hkl : k < L.length := by omega
   obtain ⟨hoL, hcL, hbL⟩ := hR25.int hkl
   have hLk := hLr _ (List.getElem_mem hkl)
   obtain ⟨a, ha⟩ := Int.eq_ofNat_of_zero_le hLk.1
   rw [ha] at hcL hLk
   have hal : a < cs.length := by omega
   have hfs := foldl_succ (needS cs.length) (S, R2) hkl
   rw [ha] at hfs
   have hnb := needS_bnd (n := cs.length) (l := L.take k) (fun x hx => hLr x (List.mem_of_mem_take hx)) (S, R2) hW.len (fun x hx => (hW.todo_ x (by simp [hx])).1)
   have hSl := hnb.1
   have hRf := needS_flen cs.length (L.take k) (S, R2)
   rw [← hR3] at hRf
   simp only [List.length_take] at hRf
   have hac : (S3.map Value.bool)[a * 1]? = some (.bool (atB S3 (a : Int))) := by simp [atB_nat, hS3, hSl, hal]
   have hoS := (hS.news (j := 1) rfl _ _ hac).1
   rw [show ((L.take k).foldl (needS cs.length) (S, R2)) = (S3, R3) from by rw [hS3, hR3], needS_in (by omega) (by omega)] at hfs
   refine cw_skip (pq_then (cw_seq (cw_block (cw_seq (cw_region (ol_pure rfl (op_move rfl) (ol_pure rfl (op_move rfl) ?_)))))))
   refine ol_pure rfl (op_move rfl) (ol_pure rfl (op_indexN sl_26 rfl rfl (by omega) hoL) (ol_load rfl (op_load1 one_3 rfl (fun w hw => hw.gcell hcL)) hS (ol_pure rfl (op_indexN sl_34 rfl rfl (by omega) hoS) (ol_load rfl (op_load1 one_4 rfl (fun w hw => hw.rcell (i := 1) rfl hac)) hS (ol_pure rfl (op_not rfl) (ol_nil (pq_then ?_)))))))
   refine cw_cond rfl (fun h43 => ?_) (fun h43 => ?_)
   ·
    try simp only [dqT, dqF, dq1, dq2, dq3, dq4, dq5] at h43
    refine cw_seq (cw_region (ol_pure rfl (op_move rfl) (ol_pure rfl (op_move rfl) (ol_pure rfl (op_move rfl) (ol_pure rfl (op_indexN sl_26 rfl rfl (by omega) hoL) (ol_load rfl (op_load1 one_3 rfl (fun w hw => hw.gcell hcL)) hS (ol_pure rfl (op_indexN sl_34 rfl rfl (by omega) hoS) ?_)))))))
    refine ol_step0  (op_storeR (j := 1) (k := a * 1) hS sz_4 rfl rfl rfl rfl (by simp [hS3, hSl]; omega)) ?_
    clear hS
    rintro _ w hS; (try simp only [List.nil_append, List.cons_append, List.set] at hS)
    rw [Nat.mul_one, ← List.map_set] at hS
    refine ol_nil (pq_then (cw_region (ol_pure rfl (op_move rfl) (ol_pure rfl (op_move rfl) (ol_pure rfl (op_move rfl) (ol_pure rfl (op_indexN sl_26 rfl rfl (by omega) hoL) (ol_load rfl (op_load1 one_3 rfl (fun w hw => hw.gcell hcL)) hS ?_)))))))
    refine ol_step rfl (op_buildSlice (el := 3) (is := [0]) (xs := [.tmp 54]) (sz := 1) (cs := [.int .i64 (a : Nat)]) hS rfl rfl (fun w => by kernel_rfl) rfl (by decide)) ?_
    clear hS
    rintro _ w ⟨s55, rfl, hS⟩
    refine ol_step rfl (op_append (j := 1) hS sl_26 el_3 rfl rfl rfl rfl rfl rfl (by decide) (hS.news (j := 0) rfl) (by simp [Value.oneCell']) (by omega) (by unfold maxLen; omega)) ?_
    clear hS
    rintro _ w ⟨o6q, c_o6q, rfl, hS⟩; (try simp only [List.nil_append, List.cons_append, List.set] at hS); replace hS := SS.drop [] hS; (try simp only [List.nil_append, List.cons_append] at hS)
    refine ol_pure rfl (op_assign rfl) (ol_nil (pq_in_normal (pq_then (cw_region (ol_pure rfl (op_move rfl) (ol_pure rfl (op_add rfl rfl (by omega) (by omega)) (ol_pure rfl (op_assign rfl) ?_)))))))
    refine ol_nil ?_
    refine pq_loop _ _ (by exact ⟨o6q, R3.length + 1, c_o6q, k + 1, S3.set a true, R3 ++ [(a : Int)], rfl, by simp, by omega, rfl, by rw [hfs, if_pos (by simpa using h43)]; rfl, by rw [hfs, if_pos (by simpa using h43)], by simpa using hS⟩) ((Sub.cons rfl (Sub.cons rfl (Sub.cons rfl (Sub.cons rfl (Sub.cons rfl Sub.nil)))))) (by omega)
   ·
    try simp only [dqT, dqF, dq1, dq2, dq3, dq4, dq5] at h43
    refine cw_skip (pq_in_normal (pq_then (cw_region (ol_pure rfl (op_move rfl) (ol_pure rfl (op_add rfl rfl (by omega) (by omega)) (ol_pure rfl (op_assign rfl) (ol_nil ?_)))))))
    refine pq_loop _ _ (by exact ⟨o6, _, c6, k + 1, S3, R3, rfl, rfl, by omega, rfl, by rw [hfs, if_neg (by simpa using h43)], by rw [hfs, if_neg (by simpa using h43)], hS⟩) ((Sub.cons rfl (Sub.cons rfl (Sub.cons rfl (Sub.cons rfl (Sub.cons rfl Sub.nil)))))) (by omega)
  ·
   try simp only [dqT, dqF, dq1, dq2, dq3, dq4, dq5] at h33
   have hkL : k = L.length := by omega
   rw [hkL, List.take_length] at hS3 hR3
   obtain ⟨hWa, hmk, hmn, hct⟩ := foldl_need L S R2 hWp (fun a ha h0 h1 => hW.der hq hx.2 (leadsI_G hq (by rw [hLe]; exact ha)))
   rw [← hS3, ← hR3] at hWa
   rw [← hS3] at hmk hmn
   rw [← hS3, ← hR3] at hct
   have hW9 := hWa.next (fun y hy => hmk y (by rw [← hLe]; exact hy) (hLr y (by rw [← hLe]; exact hy)).1 (hLr y (by rw [← hLe]; exact hy)).2)
   have hS9 := hmn p hSp
   have hc3 := cntB_le S3
   have hl3 := hW9.len
   have hR9 : R3.length ≤ 2 * cntB S3 := by omega
   refine cw_exit (pq_exit (pq_exit (pq_in_exit (pq_in_normal ?_))))
   refine pq_loop _ _ (by exact ⟨G25, o6, c6, S3, R3, rfl, hcur, hW9, hR9, hS9, rfl, hS⟩) ((Sub.cons rfl (Sub.cons rfl (Sub.cons rfl Sub.nil)))) (by simp only [List.length_cons]; omega)
 ·
  try simp only [dqT, dqF, dq1, dq2, dq3, dq4, dq5] at h20
  refine cw_exit (pq_exit (pq_exit (pq_in_exit (pq_then (cw_seq (cw_region (ol_pure rfl (op_move rfl) ?_)))))))
  refine ol_pure rfl (op_assign rfl) (ol_nil (pq_then (cw_ret (ret1 rfl rfl ?_))))
  have hR0 : R = [] := List.eq_nil_of_length_eq_zero (by omega)
  subst hR0
  rw [← hW.done hs (fun r hr _ _ => by rw [show r = (p : Int) from by simpa using hr]; exact hSp)]
  exact hS.rt_row [_] (by decide) (Rows.boolsG noG S) EBool.mono hW.len.symm
end Go.Proofs.Ytnmkffkalnkbbaa.K
