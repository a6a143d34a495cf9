/-
  The document for layer 21: the part that an atom needs.
  No condition but the premises that each theorem names.
-/
import Derived.Test.YtmkgechdfimfnaaR21b
import Derived.Test.YtmkgechdfimfnaaJfor3
namespace Go.Proofs.Ytmkgechdfimfnaa.K
open Go Go.RowKit
set_option linter.unusedVariables false
set_option linter.unusedSimpArgs false

open Pl
def headOr (l : List Int) : Int := match l with | a :: _ => a | [] => -1
theorem known_told {n : Nat} {l : List Step} {a : Int} {v : Int} (h0 : 0 ≤ a) (ha : a < n) (h : valI (knownI n l) a = v) (hv : v ≠ 1) : 0 ≤ byI l a := by
  obtain ⟨k, rfl⟩ := Int.eq_ofNat_of_zero_le h0
  have hk : k < n := by omega
  have h1 := known_at (l := l) hk
  rw [valI_nat, List.getD_eq_getElem?_getD, h1] at h
  by_cases h2 : 0 ≤ byI l (k : Int)
  · exact h2
  · rw [if_neg h2] at h
    exact absurd h.symm hv
theorem ahead_found {n : Nat} {l : List Step} {k i : Nat} {ns : List Int} {v : Int} (hr : ∀ a ∈ ns, 0 ≤ a ∧ a < n) (hv : v ≠ 1) (hi : i < ns.length) (h1 : valI (knownI n l) ns[i] = v) (h2 : byI l ns[i] < k) (hn : ∀ (j : Nat) (hj : j < ns.length), j < i → ¬ (valI (knownI n l) ns[j] = v ∧ byI l ns[j] < k)) : aheadI l (knownI n l) k ns v = i :=
  findP_at hi (by have := known_told (hr _ (List.getElem_mem hi)).1 (hr _ (List.getElem_mem hi)).2 h1 hv; simp [h1, h2, this]) (fun j hj hji => by
    have := hn j hj hji
    rw [← Bool.not_eq_true]
    simp only [Bool.and_eq_true, decide_eq_true_eq]
    rintro ⟨⟨h3, _⟩, h4⟩
    exact this ⟨h3, h4⟩)
theorem ahead_none {n : Nat} {l : List Step} {k i : Nat} {ns : List Int} {v : Int} (hi : ns.length ≤ i) (hn : ∀ (j : Nat) (hj : j < ns.length), j < i → ¬ (valI (knownI n l) ns[j] = v ∧ byI l ns[j] < k)) : aheadI l (knownI n l) k ns v = -1 :=
  findP_none hi (fun j hj hji => by
    have := hn j hj hji
    rw [← Bool.not_eq_true]
    simp only [Bool.and_eq_true, decide_eq_true_eq]
    rintro ⟨⟨h3, _⟩, h4⟩
    exact this ⟨h3, h4⟩)
theorem step_fun {P : Nat → Prop} {i : Nat} {L : Nat} (h : ∀ (j : Nat), j < L → j < i → P j) (hi : i < L → P i) : ∀ (j : Nat), j < L → j < i + 1 → P j := fun j hj hji => by
  rcases Nat.lt_succ_iff_lt_or_eq.1 hji with hh | hh
  · exact h j hj hh
  · subst hh; exact hi hj

set_option maxRecDepth 100000 in
set_option maxHeartbeats 2000000 in

theorem R21_reason_c (G : GH) (w0 : World) (hG : Holds G w0) {α : Type} {E : ER α} (hE : EMono E) (va vr : Value) (atoms : List α) (rs : List Rule) (h1 : RSl 1 E G va atoms) (h2 : RSl 3 ERule G vr rs) (hP : PrOk atoms.length rs) (vs vh : Value) (l : List Step) (hs : List Int) (h5 : RSl 2 EStep G vs l) (h6 : RSl 1 EInt G vh hs) (k : Nat) (hk : k < l.length) (r : Rule) (p q : Value) (hp : RSl 1 EInt G p r.pos) (hq : RSl 1 EInt G q r.neg) (hr : RuleOk atoms.length r) :
   Calls Try.prog 70 #[.agg #[va, vr], .agg #[vs, vh], .int .i64 (k : Nat), .agg #[.int .i64 r.head, p, q]] w0 (Sc w0 (.int .i64 (headOr (reasonI l (knownI atoms.length l) k l[k].atoms r)))) := by
 obtain ⟨oA, cA, rfl, hlA, hmA⟩ := h1.elim
 obtain ⟨oR, cR, rfl, hlR, hmR⟩ := h2.elim
 have hle1 := h1.le
 have hle2 := h2.le
 have hPn := hP.n_le
 have hPm := hP.m_le
 obtain ⟨oP, cP, rfl, hlP, hmP⟩ := h5.elim
 have hPle := h5.le
 obtain ⟨oh, ch, rfl, _, _⟩ := h6.elim
 obtain ⟨op, cp, rfl, _, _⟩ := hp.elim
 obtain ⟨oq, cq, rfl, _, _⟩ := hq.elim
 have hple := hp.le
 have hqle := hq.le
 obtain ⟨hoP, _, _, ⟨vk, rfl, hvk, hrk⟩, hcells⟩ := h5.el hk
 obtain ⟨ov, cv, rfl, _, _⟩ := hvk.elim
 refine enter Try.func70 rfl (N := 99) rfl (Nat.le_of_ble_eq_true rfl) ?_
 have hS := SS.init hG
 refine cw_seq ?_
 refine cw_region ?_
 refine ol_step rfl (op_box hS rfl rfl) ?_
 clear hS
 rintro _ w ⟨b4, rfl, hS⟩
 refine ol_step rfl (op_box hS rfl rfl) ?_
 clear hS
 rintro _ w ⟨b5, rfl, hS⟩
 refine ol_step rfl (op_box hS rfl rfl) ?_
 clear hS
 rintro _ w ⟨b7, rfl, hS⟩
 refine ol_pure rfl (op_assign rfl) ?_
 refine ol_nil ?_
 refine pq_then ?_
 refine cw_seq ?_
 refine cw_seq ?_
 refine cw_region ?_
 refine ol_pure rfl (op_assign rfl) ?_
 refine ol_nil ?_
 refine pq_then ?_
 refine cw_block ?_
 refine cw_loop (fun e w n => ∃ i : Nat, e = [(2, .int .i64 (k : Nat)), (4, .pointer (some ⟨b4, 0, none⟩)), (5, .pointer (some ⟨b5, 0, none⟩)), (7, .pointer (some ⟨b7, 0, none⟩)), (9, .int .i64 (i : Nat))] ∧ i ≤ r.pos.length ∧ n = r.pos.length - i ∧ (r.pos.take i).any (fun p => decide (p ∈ l[k].atoms)) = false ∧ SS G w0 G [.blk b7 30 [.int .i64 r.head, .slice op r.pos.length cp, .slice oq r.neg.length cq], .blk b5 34 [.slice oP l.length cP, .slice oh hs.length ch], .blk b4 26 [.slice oA atoms.length cA, .slice oR rs.length cR]] w) _ _ (by exact ⟨0, rfl, Nat.zero_le _, rfl, rfl, hS⟩) ((Sub.cons rfl (Sub.cons rfl (Sub.cons rfl (Sub.cons rfl (Sub.cons rfl Sub.nil)))))) ?_
 clear hS
 rintro e w n ⟨i, rfl, hi, rfl, hpa, hS⟩
 refine cw_seq ?_
 refine cw_seq ?_
 refine cw_region ?_
 refine ol_pure rfl (op_move rfl) ?_
 refine ol_pure rfl (op_fieldAddr fld_30_1 rfl) ?_
 refine ol_load rfl (op_load1 one_28 rfl (fun w hw => (hw.bcell (i := 0) rfl).trans rfl)) hS ?_
 refine ol_pure rfl (op_len sl_28 rfl rfl) ?_
 refine ol_pure rfl (op_lss rfl rfl) ?_
 refine ol_nil ?_
 refine pq_then ?_
 refine cw_cond rfl (fun h17 => ?_) (fun h17 => ?_)
 ·
  skip
  try simp only [decide_eq_true_eq, decide_eq_false_iff_not, Bool.not_eq_true', Bool.not_eq_false', Bool.not_eq_eq_eq_not, Bool.not_true, Bool.not_false] at h17
  have hli : i < r.pos.length := by omega
  obtain ⟨hoi, hci, hbi⟩ := hp.int hli
  refine cw_skip ?_
  refine pq_then ?_
  refine cw_seq ?_
  refine cw_block ?_
  refine cw_seq ?_
  refine al_start' hS (hS.take 2) (by kernel_rfl) rfl (fun w hS hT => ?_)
  refine al_take (i := 0) rfl (by kernel_rfl) (by kernel_rfl) (by kernel_rfl) rfl (fun _ _ _ h => h) (op_fieldAddr fld_34_0 rfl) rfl ?_
  refine al_load (i := 1) rfl (by kernel_rfl) (by kernel_rfl) (by kernel_rfl) rfl (fun _ _ _ h => h) (by exact op_load1 one_32 rfl (fun w hw => (hw.bcell (i := 1) rfl).trans rfl)) rfl hT ?_
  refine al_take (i := 2) rfl (by kernel_rfl) (by kernel_rfl) (by kernel_rfl) rfl (fun _ _ _ h => h) (op_move rfl) rfl ?_
  refine al_take (i := 3) rfl (by kernel_rfl) (by kernel_rfl) (by kernel_rfl) rfl (fun _ _ _ h => h) (op_indexN sl_32 rfl rfl (by omega) hoP) rfl ?_
  refine al_take (i := 4) rfl (by kernel_rfl) (by kernel_rfl) (by kernel_rfl) rfl (fun _ _ _ h => h) (op_fieldAddr fld_37_1 rfl) rfl ?_
  refine al_load (i := 5) rfl (by kernel_rfl) (by kernel_rfl) (by kernel_rfl) rfl (fun _ _ _ h => h) (by exact op_load1 one_28 rfl (fun w hw => hw.gcell0 (hcells 1 _ rfl))) rfl hT ?_
  refine al_take (i := 6) rfl (by kernel_rfl) (by kernel_rfl) (by kernel_rfl) rfl (fun _ _ _ h => h) (op_fieldAddr fld_30_1 rfl) rfl ?_
  refine al_load (i := 7) rfl (by kernel_rfl) (by kernel_rfl) (by kernel_rfl) rfl (fun _ _ _ h => h) (by exact op_load1 one_28 rfl (fun w hw => (hw.bcell (i := 0) rfl).trans rfl)) rfl hT ?_
  refine al_take (i := 8) rfl (by kernel_rfl) (by kernel_rfl) (by kernel_rfl) rfl (fun _ _ _ h => h) (op_move rfl) rfl ?_
  refine al_take (i := 9) rfl (by kernel_rfl) (by kernel_rfl) (by kernel_rfl) rfl (fun _ _ _ h => h) (op_indexN sl_28 rfl rfl (by omega) hoi) rfl ?_
  refine al_load (i := 10) rfl (by kernel_rfl) (by kernel_rfl) (by kernel_rfl) rfl (fun _ _ _ h => h) (by exact op_load1 one_3 rfl (fun w hw => hw.gcell0 hci)) rfl hT ?_
  refine al_step (i := 11) rfl (by kernel_rfl) rfl (op_call_sc hS cf_28 rfl (R21_In_c G _ hS.hold _ l[k].atoms r.pos[i] hvk)) ?_
  clear hS
  rintro _ w ⟨rfl, hS⟩
  have hT := hT.back hS (by first | exact Le.refl _ | assumption) (fun x hx => by try simp only [List.take_succ_cons, List.take_zero, List.mem_cons, List.not_mem_nil, or_false] at hx; (rcases hx with rfl | rfl) <;> simp)
  refine ⟨fun _ _ => hT, ?_⟩
  refine al_done (by kernel_rfl) ?_
  refine pq_then ?_
  refine cw_cond rfl (fun h31 => ?_) (fun h31 => ?_)
  ·
   skip
   try simp only [decide_eq_true_eq, decide_eq_false_iff_not, Bool.not_eq_true', Bool.not_eq_false', Bool.not_eq_eq_eq_not, Bool.not_true, Bool.not_false] at h31
   refine cw_seq ?_
   refine cw_region ?_
   refine ol_pure rfl (op_assign rfl) ?_
   refine ol_nil ?_
   refine pq_then ?_
   refine cw_ret ?_
   refine pq_in_ret ?_
   refine pq_ret ?_
   refine pq_ret ?_
   refine pq_in_ret ?_
   refine pq_ret ?_
   refine ret1 rfl rfl ?_
   exact hS.sc_i (by rw [reasonI, if_pos (Pl.any_true_at (fun p => decide (p ∈ l[k].atoms)) _ _ hli (decide_eq_true h31))]; rfl)
  ·
   skip
   try simp only [decide_eq_true_eq, decide_eq_false_iff_not, Bool.not_eq_true', Bool.not_eq_false', Bool.not_eq_eq_eq_not, Bool.not_true, Bool.not_false] at h31
   refine cw_skip ?_
   refine pq_in_normal ?_
   refine pq_then ?_
   refine cw_region ?_
   refine ol_pure rfl (op_move rfl) ?_
   refine ol_pure rfl (op_add rfl rfl (by omega) (by omega)) ?_
   refine ol_pure rfl (op_assign rfl) ?_
   refine ol_nil ?_
   refine pq_loop _ _ (by exact ⟨i + 1, rfl, by omega, rfl, by rw [Pl.any_take_succ _ _ _ hli, hpa, decide_eq_false h31]; rfl, hS⟩) ((Sub.cons rfl (Sub.cons rfl (Sub.cons rfl (Sub.cons rfl (Sub.cons rfl Sub.nil)))))) (by omega)
 ·
  skip
  try simp only [decide_eq_true_eq, decide_eq_false_iff_not, Bool.not_eq_true', Bool.not_eq_false', Bool.not_eq_eq_eq_not, Bool.not_true, Bool.not_false] at h17
  refine cw_exit ?_
  refine pq_exit ?_
  refine pq_exit ?_
  refine pq_in_exit ?_
  refine pq_then ?_
  refine cw_seq ?_
  have hnone : r.pos.any (fun p => decide (p ∈ l[k].atoms)) = false := Pl.any_of_take _ _ _ (by omega) hpa
  refine cw_region ?_
  refine ol_load rfl (op_loadN agg_26 rfl (by rfl) (fun w hw k u hk => (hw.bcell (i := 2) rfl).trans hk)) hS ?_
  refine ol_load rfl (op_loadN agg_34 rfl (by rfl) (fun w hw k u hk => (hw.bcell (i := 1) rfl).trans hk)) hS ?_
  refine ol_step rfl (op_call_fr hS cf_20 rfl (R21_Known_c _ _ hS.hold hE _ _ atoms rs h1 h2 hP _ _ l h5 ⟨_, _, _, rfl⟩)) ?_
  clear hS
  rintro v34 w ⟨F34, Gk, hR34, hF34, hf34, hl34, hS⟩
  obtain ⟨o34, c34, rfl, _, _⟩ := hR34.elimN (known_len _ _)
  have hKn := hR34.mono EInt.mono hf34
  refine ol_pure rfl (op_assign rfl) ?_
  refine ol_nil ?_
  refine pq_then ?_
  refine cw_seq ?_
  refine cw_seq ?_
  refine cw_region ?_
  refine ol_pure rfl (op_assign rfl) ?_
  refine ol_nil ?_
  refine pq_then ?_
  refine cw_block ?_
  refine cw_loop (fun e w n => ∃ i : Nat, e = [(2, .int .i64 (k : Nat)), (5, .pointer (some ⟨b5, 0, none⟩)), (7, .pointer (some ⟨b7, 0, none⟩)), (10, .slice o34 atoms.length c34), (11, .int .i64 (i : Nat))] ∧ i ≤ r.pos.length ∧ n = r.pos.length - i ∧ (∀ (j : Nat) (hj : j < r.pos.length), j < i → ¬ (valI (knownI atoms.length l) r.pos[j] = 0 ∧ byI l r.pos[j] < k)) ∧ SS G w0 Gk [.blk b7 30 [.int .i64 r.head, .slice op r.pos.length cp, .slice oq r.neg.length cq], .blk b5 34 [.slice oP l.length cP, .slice oh hs.length ch], .blk b4 26 [.slice oA atoms.length cA, .slice oR rs.length cR]] w) _ _ (by exact ⟨0, rfl, Nat.zero_le _, rfl, fun j _ h => absurd h (Nat.not_lt_zero _), hS⟩) ((Sub.cons rfl (Sub.cons rfl (Sub.cons rfl (Sub.cons rfl (Sub.cons rfl Sub.nil)))))) ?_
  clear hS
  rintro e w n ⟨i, rfl, hi, rfl, hno, hS⟩
  refine cw_seq ?_
  refine cw_seq ?_
  refine cw_region ?_
  refine ol_pure rfl (op_move rfl) ?_
  refine ol_pure rfl (op_fieldAddr fld_30_1 rfl) ?_
  refine ol_load rfl (op_load1 one_28 rfl (fun w hw => (hw.bcell (i := 0) rfl).trans rfl)) hS ?_
  refine ol_pure rfl (op_len sl_28 rfl rfl) ?_
  refine ol_pure rfl (op_lss rfl rfl) ?_
  refine ol_nil ?_
  refine pq_then ?_
  refine cw_cond rfl (fun h39 => ?_) (fun h39 => ?_)
  ·
   skip
   try simp only [decide_eq_true_eq, decide_eq_false_iff_not, Bool.not_eq_true', Bool.not_eq_false', Bool.not_eq_eq_eq_not, Bool.not_true, Bool.not_false] at h39
   have hli : i < r.pos.length := by omega
   obtain ⟨hoi, hci, hbi⟩ := hp.int hli
   have hri := hr.2.1 _ (List.getElem_mem hli)
   obtain ⟨hoM, hnM, hcMi, hbMi⟩ := hKn.val hri.1 (by rw [known_len]; exact hri.2)
   refine cw_skip ?_
   refine pq_then ?_
   refine cw_seq ?_
   refine cw_block ?_
   refine cw_seq ?_
   refine al_start' hS (hS.take 2) (by kernel_rfl) rfl (fun w hS hT => ?_)
   refine al_take (i := 0) rfl (by kernel_rfl) (by kernel_rfl) (by kernel_rfl) rfl (fun _ _ _ h => h) (op_move rfl) rfl ?_
   refine al_take (i := 1) rfl (by kernel_rfl) (by kernel_rfl) (by kernel_rfl) rfl (fun _ _ _ h => h) (op_fieldAddr fld_30_1 rfl) rfl ?_
   refine al_load (i := 2) rfl (by kernel_rfl) (by kernel_rfl) (by kernel_rfl) rfl (fun _ _ _ h => h) (by exact op_load1 one_28 rfl (fun w hw => (hw.bcell (i := 0) rfl).trans rfl)) rfl hT ?_
   refine al_take (i := 3) rfl (by kernel_rfl) (by kernel_rfl) (by kernel_rfl) rfl (fun _ _ _ h => h) (op_move rfl) rfl ?_
   refine al_take (i := 4) rfl (by kernel_rfl) (by kernel_rfl) (by kernel_rfl) rfl (fun _ _ _ h => h) (op_indexN sl_28 rfl rfl (by omega) hoi) rfl ?_
   refine al_load (i := 5) rfl (by kernel_rfl) (by kernel_rfl) (by kernel_rfl) rfl (fun _ _ _ h => h) (by exact op_load1 one_3 rfl (fun w hw => hw.gcell0 hci)) rfl hT ?_
   refine al_take (i := 6) rfl (by kernel_rfl) (by kernel_rfl) (by kernel_rfl) rfl (fun _ _ _ h => h) (op_indexAddr sl_28 rfl rfl (by omega) (by omega) hoM) rfl ?_
   refine al_load (i := 7) rfl (by kernel_rfl) (by kernel_rfl) (by kernel_rfl) rfl (fun _ _ _ h => h) (by exact op_load1 one_3 rfl (fun w hw => hw.gcell hcMi)) rfl hT ?_
   refine al_take (i := 8) rfl (by kernel_rfl) (by kernel_rfl) (by kernel_rfl) rfl (fun _ _ _ h => h) (op_eql rfl rfl) rfl ?_
   refine al_take (i := 9) rfl (by kernel_rfl) (by kernel_rfl) (by kernel_rfl) rfl (fun _ _ _ h => h) (op_move rfl) rfl ?_
   refine al_split (fun h51 => ?_) (fun h51 => ?_)
   ·
    skip
    try simp only [decide_eq_true_eq, decide_eq_false_iff_not, Bool.not_eq_true', Bool.not_eq_false', Bool.not_eq_eq_eq_not, Bool.not_true, Bool.not_false] at h51
    refine al_gload (i := 10) rfl (by kernel_rfl) (by kernel_rfl) (by kernel_rfl) rfl rfl rfl (fun _ _ _ h => h) (by exact op_loadN agg_34 rfl (by rfl) (fun w hw k u hk => (hw.bcell (i := 1) rfl).trans hk)) rfl hT ?_
    refine al_gtake (i := 11) rfl (by kernel_rfl) (by kernel_rfl) (by kernel_rfl) rfl rfl rfl (fun _ _ _ h => h) (op_fieldAddr fld_30_1 rfl) rfl ?_
    refine al_gload (i := 12) rfl (by kernel_rfl) (by kernel_rfl) (by kernel_rfl) rfl rfl rfl (fun _ _ _ h => h) (by exact op_load1 one_28 rfl (fun w hw => (hw.bcell (i := 0) rfl).trans rfl)) rfl hT ?_
    refine al_gtake (i := 13) rfl (by kernel_rfl) (by kernel_rfl) (by kernel_rfl) rfl rfl rfl (fun _ _ _ h => h) (op_move rfl) rfl ?_
    refine al_gtake (i := 14) rfl (by kernel_rfl) (by kernel_rfl) (by kernel_rfl) rfl rfl rfl (fun _ _ _ h => h) (op_indexN sl_28 rfl rfl (by omega) hoi) rfl ?_
    refine al_gload (i := 15) rfl (by kernel_rfl) (by kernel_rfl) (by kernel_rfl) rfl rfl rfl (fun _ _ _ h => h) (by exact op_load1 one_3 rfl (fun w hw => hw.gcell0 hci)) rfl hT ?_
    refine al_gtake (i := 17) rfl (by kernel_rfl) (by kernel_rfl) (by kernel_rfl) rfl rfl rfl (fun _ _ _ h => h) (op_move rfl) rfl ?_
    refine al_gstep (i := 16) rfl (by kernel_rfl) rfl rfl rfl (op_call_sc hS cf_29 rfl (R21_By_c G _ (hS.hold.mono hl34) _ _ l h5 ⟨_, _, _, rfl⟩ r.pos[i])) ?_
    clear hS
    rintro _ w ⟨rfl, hS⟩
    have hT := hT.back hS (by first | exact Le.refl _ | assumption) (fun x hx => by try simp only [List.take_succ_cons, List.take_zero, List.mem_cons, List.not_mem_nil, or_false] at hx; (rcases hx with rfl | rfl) <;> simp)
    refine ⟨fun _ _ => hT, ?_⟩
    refine al_gtake (i := 18) rfl (by kernel_rfl) (by kernel_rfl) (by kernel_rfl) rfl rfl rfl (fun _ _ _ h => h) (op_lss rfl rfl) rfl ?_
    refine al_take (i := 19) rfl (by kernel_rfl) (by kernel_rfl) (by kernel_rfl) rfl (fun _ _ _ h => h) (op_pick_t rfl rfl) rfl ?_
    refine al_done (by kernel_rfl) ?_
    refine pq_then ?_
    refine cw_cond rfl (fun h61 => ?_) (fun h61 => ?_)
    ·
     skip
     try simp only [decide_eq_true_eq, decide_eq_false_iff_not, Bool.not_eq_true', Bool.not_eq_false', Bool.not_eq_eq_eq_not, Bool.not_true, Bool.not_false] at h61
     refine cw_seq ?_
     refine cw_region ?_
     refine ol_pure rfl (op_fieldAddr fld_30_1 rfl) ?_
     refine ol_load rfl (op_load1 one_28 rfl (fun w hw => (hw.bcell (i := 0) rfl).trans rfl)) hS ?_
     refine ol_pure rfl (op_move rfl) ?_
     refine ol_pure rfl (op_indexN sl_28 rfl rfl (by omega) hoi) ?_
     refine ol_load rfl (op_load1 one_3 rfl (fun w hw => hw.gcell0 hci)) hS ?_
     refine ol_pure rfl (op_assign rfl) ?_
     refine ol_nil ?_
     refine pq_then ?_
     refine cw_ret ?_
     refine pq_in_ret ?_
     refine pq_ret ?_
     refine pq_ret ?_
     refine pq_in_ret ?_
     refine pq_ret ?_
     refine ret1 rfl rfl ?_
     have hah := ahead_found (k := k) (v := 0) hr.2.1 (by decide) hli h51 h61 hno
     exact hS.sc_i (by rw [reasonI, if_neg (by rw [hnone]; decide), if_pos (by rw [hah]; omega), hah]; simp [pickA, hli, headOr])
    ·
     skip
     try simp only [decide_eq_true_eq, decide_eq_false_iff_not, Bool.not_eq_true', Bool.not_eq_false', Bool.not_eq_eq_eq_not, Bool.not_true, Bool.not_false] at h61
     refine cw_skip ?_
     refine pq_in_normal ?_
     refine pq_then ?_
     refine cw_region ?_
     refine ol_pure rfl (op_move rfl) ?_
     refine ol_pure rfl (op_add rfl rfl (by omega) (by omega)) ?_
     refine ol_pure rfl (op_assign rfl) ?_
     refine ol_nil ?_
     refine pq_loop _ _ (by exact ⟨i + 1, rfl, by omega, rfl, (fun j hj hji => by rcases Nat.lt_succ_iff_lt_or_eq.1 hji with hh | hh; exact hno j hj hh; subst hh; exact fun h9 => h61 h9.2), hS⟩) ((Sub.cons rfl (Sub.cons rfl (Sub.cons rfl (Sub.cons rfl (Sub.cons rfl Sub.nil)))))) (by omega)
   ·
    skip
    try simp only [decide_eq_true_eq, decide_eq_false_iff_not, Bool.not_eq_true', Bool.not_eq_false', Bool.not_eq_eq_eq_not, Bool.not_true, Bool.not_false] at h51
    refine al_gskip (i := 10) rfl (by kernel_rfl) (by kernel_rfl) (by kernel_rfl) rfl rfl rfl rfl (fun _ _ _ h => h) (fun _ => hT) ?_
    refine al_gskip (i := 11) rfl (by kernel_rfl) (by kernel_rfl) (by kernel_rfl) rfl rfl rfl rfl (fun _ _ _ h => h) (fun _ => hT) ?_
    refine al_gskip (i := 12) rfl (by kernel_rfl) (by kernel_rfl) (by kernel_rfl) rfl rfl rfl rfl (fun _ _ _ h => h) (fun _ => hT) ?_
    refine al_gskip (i := 13) rfl (by kernel_rfl) (by kernel_rfl) (by kernel_rfl) rfl rfl rfl rfl (fun _ _ _ h => h) (fun _ => hT) ?_
    refine al_gskip (i := 14) rfl (by kernel_rfl) (by kernel_rfl) (by kernel_rfl) rfl rfl rfl rfl (fun _ _ _ h => h) (fun _ => hT) ?_
    refine al_gskip (i := 15) rfl (by kernel_rfl) (by kernel_rfl) (by kernel_rfl) rfl rfl rfl rfl (fun _ _ _ h => h) (fun _ => hT) ?_
    refine al_gskip (i := 16) rfl (by kernel_rfl) (by kernel_rfl) (by kernel_rfl) rfl rfl rfl rfl (fun _ _ _ h => h) (fun _ => hT) ?_
    refine al_gskip (i := 17) rfl (by kernel_rfl) (by kernel_rfl) (by kernel_rfl) rfl rfl rfl rfl (fun _ _ _ h => h) (fun _ => hT) ?_
    refine al_gskip (i := 18) rfl (by kernel_rfl) (by kernel_rfl) (by kernel_rfl) rfl rfl rfl rfl (fun _ _ _ h => h) (fun _ => hT) ?_
    refine al_take (i := 19) rfl (by kernel_rfl) (by kernel_rfl) (by kernel_rfl) rfl (fun _ _ _ h => h) (op_pick_f rfl rfl) rfl ?_
    refine al_done (by kernel_rfl) ?_
    refine pq_then ?_
    refine cw_cond_f rfl ?_
    refine cw_skip ?_
    refine pq_in_normal ?_
    refine pq_then ?_
    refine cw_region ?_
    refine ol_pure rfl (op_move rfl) ?_
    refine ol_pure rfl (op_add rfl rfl (by omega) (by omega)) ?_
    refine ol_pure rfl (op_assign rfl) ?_
    refine ol_nil ?_
    refine pq_loop _ _ (by exact ⟨i + 1, rfl, by omega, rfl, (fun j hj hji => by rcases Nat.lt_succ_iff_lt_or_eq.1 hji with hh | hh; exact hno j hj hh; subst hh; exact fun h9 => h51 h9.1), hS⟩) ((Sub.cons rfl (Sub.cons rfl (Sub.cons rfl (Sub.cons rfl (Sub.cons rfl Sub.nil)))))) (by omega)
  ·
   skip
   try simp only [decide_eq_true_eq, decide_eq_false_iff_not, Bool.not_eq_true', Bool.not_eq_false', Bool.not_eq_eq_eq_not, Bool.not_true, Bool.not_false] at h39
   refine cw_exit ?_
   refine pq_exit ?_
   refine pq_exit ?_
   refine pq_in_exit ?_
   refine pq_then ?_
   refine cw_seq ?_
   refine cw_seq ?_
   refine cw_region ?_
   refine ol_pure rfl (op_assign rfl) ?_
   refine ol_nil ?_
   refine pq_then ?_
   refine cw_block ?_
   have hpn := ahead_none (k := k) (v := 0) (by omega : r.pos.length ≤ i) hno
   clear hno
   refine cw_loop (fun e w n => ∃ i : Nat, e = [(2, .int .i64 (k : Nat)), (5, .pointer (some ⟨b5, 0, none⟩)), (7, .pointer (some ⟨b7, 0, none⟩)), (10, .slice o34 atoms.length c34), (12, .int .i64 (i : Nat))] ∧ i ≤ r.neg.length ∧ n = r.neg.length - i ∧ (∀ (j : Nat) (hj : j < r.neg.length), j < i → ¬ (valI (knownI atoms.length l) r.neg[j] = 2 ∧ byI l r.neg[j] < k)) ∧ SS G w0 Gk [.blk b7 30 [.int .i64 r.head, .slice op r.pos.length cp, .slice oq r.neg.length cq], .blk b5 34 [.slice oP l.length cP, .slice oh hs.length ch], .blk b4 26 [.slice oA atoms.length cA, .slice oR rs.length cR]] w) _ _ (by exact ⟨0, rfl, Nat.zero_le _, rfl, fun j _ h => absurd h (Nat.not_lt_zero _), hS⟩) ((Sub.cons rfl (Sub.cons rfl (Sub.cons rfl (Sub.cons rfl (Sub.cons rfl Sub.nil)))))) ?_
   clear hS
   rintro e w n ⟨i, rfl, hi, rfl, hno, hS⟩
   refine cw_seq ?_
   refine cw_seq ?_
   refine cw_region ?_
   refine ol_pure rfl (op_move rfl) ?_
   refine ol_pure rfl (op_fieldAddr fld_30_2 rfl) ?_
   refine ol_load rfl (op_load1 one_28 rfl (fun w hw => (hw.bcell (i := 0) rfl).trans rfl)) hS ?_
   refine ol_pure rfl (op_len sl_28 rfl rfl) ?_
   refine ol_pure rfl (op_lss rfl rfl) ?_
   refine ol_nil ?_
   refine pq_then ?_
   refine cw_cond rfl (fun h71 => ?_) (fun h71 => ?_)
   ·
    skip
    try simp only [decide_eq_true_eq, decide_eq_false_iff_not, Bool.not_eq_true', Bool.not_eq_false', Bool.not_eq_eq_eq_not, Bool.not_true, Bool.not_false] at h71
    have hli : i < r.neg.length := by omega
    obtain ⟨hoi, hci, hbi⟩ := hq.int hli
    have hri := hr.2.2 _ (List.getElem_mem hli)
    obtain ⟨hoM, hnM, hcMi, hbMi⟩ := hKn.val hri.1 (by rw [known_len]; exact hri.2)
    refine cw_skip ?_
    refine pq_then ?_
    refine cw_seq ?_
    refine cw_block ?_
    refine cw_seq ?_
    refine al_start' hS (hS.take 2) (by kernel_rfl) rfl (fun w hS hT => ?_)
    refine al_take (i := 0) rfl (by kernel_rfl) (by kernel_rfl) (by kernel_rfl) rfl (fun _ _ _ h => h) (op_move rfl) rfl ?_
    refine al_take (i := 1) rfl (by kernel_rfl) (by kernel_rfl) (by kernel_rfl) rfl (fun _ _ _ h => h) (op_fieldAddr fld_30_2 rfl) rfl ?_
    refine al_load (i := 2) rfl (by kernel_rfl) (by kernel_rfl) (by kernel_rfl) rfl (fun _ _ _ h => h) (by exact op_load1 one_28 rfl (fun w hw => (hw.bcell (i := 0) rfl).trans rfl)) rfl hT ?_
    refine al_take (i := 3) rfl (by kernel_rfl) (by kernel_rfl) (by kernel_rfl) rfl (fun _ _ _ h => h) (op_move rfl) rfl ?_
    refine al_take (i := 4) rfl (by kernel_rfl) (by kernel_rfl) (by kernel_rfl) rfl (fun _ _ _ h => h) (op_indexN sl_28 rfl rfl (by omega) hoi) rfl ?_
    refine al_load (i := 5) rfl (by kernel_rfl) (by kernel_rfl) (by kernel_rfl) rfl (fun _ _ _ h => h) (by exact op_load1 one_3 rfl (fun w hw => hw.gcell0 hci)) rfl hT ?_
    refine al_take (i := 6) rfl (by kernel_rfl) (by kernel_rfl) (by kernel_rfl) rfl (fun _ _ _ h => h) (op_indexAddr sl_28 rfl rfl (by omega) (by omega) hoM) rfl ?_
    refine al_load (i := 7) rfl (by kernel_rfl) (by kernel_rfl) (by kernel_rfl) rfl (fun _ _ _ h => h) (by exact op_load1 one_3 rfl (fun w hw => hw.gcell hcMi)) rfl hT ?_
    refine al_take (i := 8) rfl (by kernel_rfl) (by kernel_rfl) (by kernel_rfl) rfl (fun _ _ _ h => h) (op_eql rfl rfl) rfl ?_
    refine al_take (i := 9) rfl (by kernel_rfl) (by kernel_rfl) (by kernel_rfl) rfl (fun _ _ _ h => h) (op_move rfl) rfl ?_
    refine al_split (fun h83 => ?_) (fun h83 => ?_)
    ·
     skip
     try simp only [decide_eq_true_eq, decide_eq_false_iff_not, Bool.not_eq_true', Bool.not_eq_false', Bool.not_eq_eq_eq_not, Bool.not_true, Bool.not_false] at h83
     refine al_gload (i := 10) rfl (by kernel_rfl) (by kernel_rfl) (by kernel_rfl) rfl rfl rfl (fun _ _ _ h => h) (by exact op_loadN agg_34 rfl (by rfl) (fun w hw k u hk => (hw.bcell (i := 1) rfl).trans hk)) rfl hT ?_
     refine al_gtake (i := 11) rfl (by kernel_rfl) (by kernel_rfl) (by kernel_rfl) rfl rfl rfl (fun _ _ _ h => h) (op_fieldAddr fld_30_2 rfl) rfl ?_
     refine al_gload (i := 12) rfl (by kernel_rfl) (by kernel_rfl) (by kernel_rfl) rfl rfl rfl (fun _ _ _ h => h) (by exact op_load1 one_28 rfl (fun w hw => (hw.bcell (i := 0) rfl).trans rfl)) rfl hT ?_
     refine al_gtake (i := 13) rfl (by kernel_rfl) (by kernel_rfl) (by kernel_rfl) rfl rfl rfl (fun _ _ _ h => h) (op_move rfl) rfl ?_
     refine al_gtake (i := 14) rfl (by kernel_rfl) (by kernel_rfl) (by kernel_rfl) rfl rfl rfl (fun _ _ _ h => h) (op_indexN sl_28 rfl rfl (by omega) hoi) rfl ?_
     refine al_gload (i := 15) rfl (by kernel_rfl) (by kernel_rfl) (by kernel_rfl) rfl rfl rfl (fun _ _ _ h => h) (by exact op_load1 one_3 rfl (fun w hw => hw.gcell0 hci)) rfl hT ?_
     refine al_gtake (i := 17) rfl (by kernel_rfl) (by kernel_rfl) (by kernel_rfl) rfl rfl rfl (fun _ _ _ h => h) (op_move rfl) rfl ?_
     refine al_gstep (i := 16) rfl (by kernel_rfl) rfl rfl rfl (op_call_sc hS cf_29 rfl (R21_By_c G _ (hS.hold.mono hl34) _ _ l h5 ⟨_, _, _, rfl⟩ r.neg[i])) ?_
     clear hS
     rintro _ w ⟨rfl, hS⟩
     have hT := hT.back hS (by first | exact Le.refl _ | assumption) (fun x hx => by try simp only [List.take_succ_cons, List.take_zero, List.mem_cons, List.not_mem_nil, or_false] at hx; (rcases hx with rfl | rfl) <;> simp)
     refine ⟨fun _ _ => hT, ?_⟩
     refine al_gtake (i := 18) rfl (by kernel_rfl) (by kernel_rfl) (by kernel_rfl) rfl rfl rfl (fun _ _ _ h => h) (op_lss rfl rfl) rfl ?_
     refine al_take (i := 19) rfl (by kernel_rfl) (by kernel_rfl) (by kernel_rfl) rfl (fun _ _ _ h => h) (op_pick_t rfl rfl) rfl ?_
     refine al_done (by kernel_rfl) ?_
     refine pq_then ?_
     refine cw_cond rfl (fun h93 => ?_) (fun h93 => ?_)
     ·
      skip
      try simp only [decide_eq_true_eq, decide_eq_false_iff_not, Bool.not_eq_true', Bool.not_eq_false', Bool.not_eq_eq_eq_not, Bool.not_true, Bool.not_false] at h93
      refine cw_seq ?_
      refine cw_region ?_
      refine ol_pure rfl (op_fieldAddr fld_30_2 rfl) ?_
      refine ol_load rfl (op_load1 one_28 rfl (fun w hw => (hw.bcell (i := 0) rfl).trans rfl)) hS ?_
      refine ol_pure rfl (op_move rfl) ?_
      refine ol_pure rfl (op_indexN sl_28 rfl rfl (by omega) hoi) ?_
      refine ol_load rfl (op_load1 one_3 rfl (fun w hw => hw.gcell0 hci)) hS ?_
      refine ol_pure rfl (op_assign rfl) ?_
      refine ol_nil ?_
      refine pq_then ?_
      refine cw_ret ?_
      refine pq_in_ret ?_
      refine pq_ret ?_
      refine pq_ret ?_
      refine pq_in_ret ?_
      refine pq_ret ?_
      refine ret1 rfl rfl ?_
      have hah := ahead_found (k := k) (v := 2) hr.2.2 (by decide) hli h83 h93 hno
      exact hS.sc_i (by rw [reasonI, if_neg (by rw [hnone]; decide), if_neg (by rw [hpn]; decide), hah]; simp [pickA, hli, headOr])
     ·
      skip
      try simp only [decide_eq_true_eq, decide_eq_false_iff_not, Bool.not_eq_true', Bool.not_eq_false', Bool.not_eq_eq_eq_not, Bool.not_true, Bool.not_false] at h93
      refine cw_skip ?_
      refine pq_in_normal ?_
      refine pq_then ?_
      refine cw_region ?_
      refine ol_pure rfl (op_move rfl) ?_
      refine ol_pure rfl (op_add rfl rfl (by omega) (by omega)) ?_
      refine ol_pure rfl (op_assign rfl) ?_
      refine ol_nil ?_
      refine pq_loop _ _ (by exact ⟨i + 1, rfl, by omega, rfl, (fun j hj hji => by rcases Nat.lt_succ_iff_lt_or_eq.1 hji with hh | hh; exact hno j hj hh; subst hh; exact fun h9 => h93 h9.2), hS⟩) ((Sub.cons rfl (Sub.cons rfl (Sub.cons rfl (Sub.cons rfl (Sub.cons rfl Sub.nil)))))) (by omega)
    ·
     skip
     try simp only [decide_eq_true_eq, decide_eq_false_iff_not, Bool.not_eq_true', Bool.not_eq_false', Bool.not_eq_eq_eq_not, Bool.not_true, Bool.not_false] at h83
     refine al_gskip (i := 10) rfl (by kernel_rfl) (by kernel_rfl) (by kernel_rfl) rfl rfl rfl rfl (fun _ _ _ h => h) (fun _ => hT) ?_
     refine al_gskip (i := 11) rfl (by kernel_rfl) (by kernel_rfl) (by kernel_rfl) rfl rfl rfl rfl (fun _ _ _ h => h) (fun _ => hT) ?_
     refine al_gskip (i := 12) rfl (by kernel_rfl) (by kernel_rfl) (by kernel_rfl) rfl rfl rfl rfl (fun _ _ _ h => h) (fun _ => hT) ?_
     refine al_gskip (i := 13) rfl (by kernel_rfl) (by kernel_rfl) (by kernel_rfl) rfl rfl rfl rfl (fun _ _ _ h => h) (fun _ => hT) ?_
     refine al_gskip (i := 14) rfl (by kernel_rfl) (by kernel_rfl) (by kernel_rfl) rfl rfl rfl rfl (fun _ _ _ h => h) (fun _ => hT) ?_
     refine al_gskip (i := 15) rfl (by kernel_rfl) (by kernel_rfl) (by kernel_rfl) rfl rfl rfl rfl (fun _ _ _ h => h) (fun _ => hT) ?_
     refine al_gskip (i := 16) rfl (by kernel_rfl) (by kernel_rfl) (by kernel_rfl) rfl rfl rfl rfl (fun _ _ _ h => h) (fun _ => hT) ?_
     refine al_gskip (i := 17) rfl (by kernel_rfl) (by kernel_rfl) (by kernel_rfl) rfl rfl rfl rfl (fun _ _ _ h => h) (fun _ => hT) ?_
     refine al_gskip (i := 18) rfl (by kernel_rfl) (by kernel_rfl) (by kernel_rfl) rfl rfl rfl rfl (fun _ _ _ h => h) (fun _ => hT) ?_
     refine al_take (i := 19) rfl (by kernel_rfl) (by kernel_rfl) (by kernel_rfl) rfl (fun _ _ _ h => h) (op_pick_f rfl rfl) rfl ?_
     refine al_done (by kernel_rfl) ?_
     refine pq_then ?_
     refine cw_cond_f rfl ?_
     refine cw_skip ?_
     refine pq_in_normal ?_
     refine pq_then ?_
     refine cw_region ?_
     refine ol_pure rfl (op_move rfl) ?_
     refine ol_pure rfl (op_add rfl rfl (by omega) (by omega)) ?_
     refine ol_pure rfl (op_assign rfl) ?_
     refine ol_nil ?_
     refine pq_loop _ _ (by exact ⟨i + 1, rfl, by omega, rfl, (fun j hj hji => by rcases Nat.lt_succ_iff_lt_or_eq.1 hji with hh | hh; exact hno j hj hh; subst hh; exact fun h9 => h83 h9.1), hS⟩) ((Sub.cons rfl (Sub.cons rfl (Sub.cons rfl (Sub.cons rfl (Sub.cons rfl Sub.nil)))))) (by omega)
   ·
    skip
    try simp only [decide_eq_true_eq, decide_eq_false_iff_not, Bool.not_eq_true', Bool.not_eq_false', Bool.not_eq_eq_eq_not, Bool.not_true, Bool.not_false] at h71
    refine cw_exit ?_
    refine pq_exit ?_
    refine pq_exit ?_
    refine pq_in_exit ?_
    refine pq_then ?_
    refine cw_seq ?_
    refine cw_region ?_
    refine ol_pure rfl (op_assign rfl) ?_
    refine ol_nil ?_
    refine pq_then ?_
    refine cw_ret ?_
    refine ret1 rfl rfl ?_
    have hah := ahead_none (k := k) (v := 2) (by omega : r.neg.length ≤ i) hno
    exact hS.sc_i (by rw [reasonI, if_neg (by rw [hnone]; decide), if_neg (by rw [hpn]; decide), hah]; rfl)
set_option maxRecDepth 100000 in
set_option maxHeartbeats 4000000 in

theorem R21_leans_c (G : GH) (w0 : World) (hG : Holds G w0) {α : Type} {E : ER α} (hE : EMono E) (va vr : Value) (atoms : List α) (rs : List Rule) (h1 : RSl 1 E G va atoms) (h2 : RSl 3 ERule G vr rs) (hP : PrOk atoms.length rs) (vs vh : Value) (l : List Step) (hs : List Int) (h5 : RSl 2 EStep G vs l) (h6 : RSl 1 EInt G vh hs) (k : Nat) (hk : k < l.length) (hL : LeanOk rs l) (hNg : ∀ r ∈ rs, r.neg.length ≤ 1000) (hAt : ∀ s ∈ l, s.atoms.length ≤ 1000) :
   Calls Try.prog 53 #[.agg #[va, vr], .agg #[vs, vh], .int .i64 (k : Nat)] w0 (Rt noG w0 (fun G v => RSl 1 EInt G v (leansI rs l (knownI atoms.length l) k l[k]))) := by
 obtain ⟨oA, cA, rfl, hlA, hmA⟩ := h1.elim
 obtain ⟨oR, cR, rfl, hlR, hmR⟩ := h2.elim
 have hle1 := h1.le
 have hle2 := h2.le
 have hPn := hP.n_le
 have hPm := hP.m_le
 obtain ⟨oP, cP, rfl, hlP, hmP⟩ := h5.elim
 have hPle := h5.le
 obtain ⟨oh, ch, rfl, _, _⟩ := h6.elim
 obtain ⟨hoP, _, _, ⟨vk, rfl, hvk, hrk⟩, hcells⟩ := h5.el hk
 obtain ⟨ov, cv, rfl, _, _⟩ := hvk.elim
 have hvle := hvk.le
 have hak := hAt _ (List.getElem_mem hk)
 refine enter Try.func53 rfl (N := 80) rfl (Nat.le_of_ble_eq_true rfl) ?_
 have hS := SS.init hG
 refine cw_seq ?_
 refine cw_region ?_
 refine ol_step rfl (op_box hS rfl rfl) ?_
 clear hS
 rintro _ w ⟨b3, rfl, hS⟩
 refine ol_step rfl (op_box hS rfl rfl) ?_
 clear hS
 rintro _ w ⟨b4, rfl, hS⟩
 refine ol_pure rfl (op_assign rfl) ?_
 refine ol_nil ?_
 refine pq_then ?_
 refine cw_seq ?_
 refine cw_region ?_
 refine ol_pure rfl (op_fieldAddr fld_34_0 rfl) ?_
 refine ol_load rfl (op_load1 one_32 rfl (fun w hw => (hw.bcell (i := 0) rfl).trans rfl)) hS ?_
 refine ol_pure rfl (op_move rfl) ?_
 refine ol_pure rfl (op_indexN sl_32 rfl rfl (by omega) hoP) ?_
 refine ol_load rfl (op_loadN agg_37 rfl (by rfl) (fun w hw k u hk => hw.gcell0 (hcells _ u hk))) hS ?_
 refine ol_step rfl (op_buildSlice (el := 3) (is := []) (xs := []) (sz := 1) (cs := []) hS rfl rfl (fun w => by kernel_rfl) rfl (by decide)) ?_
 clear hS
 rintro _ w ⟨o8, rfl, hS⟩
 refine ol_step rfl (op_alloc hS el_37 rfl) ?_
 clear hS
 rintro _ w ⟨b7, rfl, hS⟩
 refine ol_step0  (op_storeN (j := 0) hS sz_37 rfl rfl rfl rfl rfl (by simp [Value.oneCell'])) ?_
 clear hS
 rintro _ w hS; (try simp only [List.nil_append, List.cons_append, List.set] at hS)
 refine ol_pure rfl (op_assign rfl) ?_
 refine ol_nil ?_
 refine pq_then ?_
 refine cw_seq ?_
 refine cw_seq ?_
 refine cw_region ?_
 refine ol_pure rfl (op_fieldAddr fld_37_0 rfl) ?_
 refine ol_load rfl (op_load1 one_3 rfl (fun w hw => (hw.bcell (i := 0) rfl).trans rfl)) hS ?_
 refine ol_pure rfl (op_geq rfl rfl) ?_
 refine ol_nil ?_
 refine pq_then ?_
 refine cw_cond rfl (fun h21 => ?_) (fun h21 => ?_)
 ·
  skip
  try simp only [decide_eq_true_eq, decide_eq_false_iff_not, Bool.not_eq_true', Bool.not_eq_false', Bool.not_eq_eq_eq_not, Bool.not_true, Bool.not_false] at h21
  obtain ⟨hrl, hrb⟩ := hL _ (List.getElem_mem hk) h21
  have hrok := hP.rule _ (List.getElem_mem hrl)
  have hng := hNg _ (List.getElem_mem hrl)
  obtain ⟨hoR, _, _, ⟨p, q, rfl, hp, hq, hhd⟩, hcellR⟩ := h2.el hrl
  obtain ⟨op, cp, rfl, _, _⟩ := hp.elim
  obtain ⟨oq, cq, rfl, _, _⟩ := hq.elim
  refine cw_seq ?_
  refine cw_region ?_
  refine ol_pure rfl (op_move rfl) ?_
  refine ol_pure rfl (op_fieldAddr fld_26_1 rfl) ?_
  refine ol_load rfl (op_load1 one_22 rfl (fun w hw => (hw.bcell (i := 3) rfl).trans rfl)) hS ?_
  refine ol_pure rfl (op_fieldAddr fld_37_0 rfl) ?_
  refine ol_load rfl (op_load1 one_3 rfl (fun w hw => (hw.bcell (i := 0) rfl).trans rfl)) hS ?_
  refine ol_pure rfl (op_indexAddr sl_22 rfl rfl (by omega) (by omega) hoR) ?_
  refine ol_pure rfl (op_fieldAddr fld_30_1 rfl) ?_
  refine ol_load rfl (op_load1 one_28 rfl (fun w hw => hw.gcell0 (hcellR 1 _ rfl))) hS ?_
  refine ol_step rfl (op_append (j := 1) (m := rs[l[k].rule.toNat].pos.length) (news := rs[l[k].rule.toNat].pos.map (Value.int .i64)) hS sl_28 el_3 rfl rfl rfl rfl rfl (by simp) (by decide) (hp.newsI hS.hold) (ones_i _) (by omega) (by unfold maxLen; omega)) ?_
  clear hS
  rintro _ w ⟨o8n, c_o8n, rfl, hS⟩; (try simp only [List.nil_append, List.cons_append, List.set] at hS)
  refine ol_pure rfl (op_assign rfl) ?_
  refine ol_nil ?_
  refine pq_then ?_
  refine cw_seq ?_
  refine cw_region ?_
  refine ol_pure rfl (op_move rfl) ?_
  refine ol_pure rfl (op_fieldAddr fld_26_1 rfl) ?_
  refine ol_load rfl (op_load1 one_22 rfl (fun w hw => (hw.bcell (i := 3) rfl).trans rfl)) hS ?_
  refine ol_pure rfl (op_fieldAddr fld_37_0 rfl) ?_
  refine ol_load rfl (op_load1 one_3 rfl (fun w hw => (hw.bcell (i := 0) rfl).trans rfl)) hS ?_
  refine ol_pure rfl (op_indexAddr sl_22 rfl rfl (by omega) (by omega) hoR) ?_
  refine ol_pure rfl (op_fieldAddr fld_30_2 rfl) ?_
  refine ol_load rfl (op_load1 one_28 rfl (fun w hw => hw.gcell0 (hcellR 2 _ rfl))) hS ?_
  refine ol_step rfl (op_append (j := 1) (m := rs[l[k].rule.toNat].neg.length) (news := rs[l[k].rule.toNat].neg.map (Value.int .i64)) hS sl_28 el_3 rfl rfl rfl rfl rfl (by simp) (by decide) (hq.newsI hS.hold) (ones_i _) (by omega) (by unfold maxLen; omega)) ?_
  clear hS
  rintro _ w ⟨o8nn, c_o8nn, rfl, hS⟩; (try simp only [List.nil_append, List.cons_append, List.set] at hS)
  refine ol_pure rfl (op_assign rfl) ?_
  refine ol_nil ?_
  refine pq_then ?_
  refine cw_seq ?_
  refine cw_region ?_
  refine ol_pure rfl (op_move rfl) ?_
  refine ol_pure rfl (op_assign rfl) ?_
  refine ol_nil ?_
  refine pq_then ?_
  refine cw_ret ?_
  refine pq_ret ?_
  refine ret1 rfl rfl ?_
  rw [Nat.zero_add] at hS ⊢
  refine hS.rt_row (zs := (leansI rs l (knownI atoms.length l) k l[k])) [_] (by decide) ?_ EInt.mono (by rw [leansI_rule h21 hrl]; simp)
  rw [leansI_rule h21 hrl]
  simp only [List.nil_append, ← List.map_append]
  exact Rows.ints (l := rs[l[k].rule.toNat].pos ++ rs[l[k].rule.toNat].neg) (fun x hx => by
    rcases List.mem_append.1 hx with hx | hx
    · have := hrok.1.2.1 x hx; omega
    · have := hrok.1.2.2 x hx; omega)
 ·
  skip
  try simp only [decide_eq_true_eq, decide_eq_false_iff_not, Bool.not_eq_true', Bool.not_eq_false', Bool.not_eq_eq_eq_not, Bool.not_true, Bool.not_false] at h21
  refine cw_skip ?_
  refine pq_then ?_
  refine cw_seq ?_
  refine cw_seq ?_
  refine cw_region ?_
  refine ol_pure rfl (op_assign rfl) ?_
  refine ol_nil ?_
  refine pq_then ?_
  refine cw_block ?_
  refine cw_loop (fun e w n => ∃ (j : Nat) (o8 : Option Addr) (c8 : Nat) (Gj : GH), e = [(2, .int .i64 (k : Nat)), (3, .pointer (some ⟨b3, 0, none⟩)), (4, .pointer (some ⟨b4, 0, none⟩)), (7, .pointer (some ⟨b7, 0, none⟩)), (8, .slice o8 ((l[k].atoms.take j).flatMap (atomR rs l (knownI atoms.length l) k l[k].atoms)).length c8), (9, .int .i64 (j : Nat))] ∧ j ≤ l[k].atoms.length ∧ n = l[k].atoms.length - j ∧ Le G Gj ∧ SS G w0 Gj [.blk b7 37 [.int .i64 l[k].rule, .slice ov l[k].atoms.length cv], .row o8 ((l[k].atoms.take j).flatMap (atomR rs l (knownI atoms.length l) k l[k].atoms)).length c8 3 1 (((l[k].atoms.take j).flatMap (atomR rs l (knownI atoms.length l) k l[k].atoms)).map (Value.int .i64)), .blk b4 34 [.slice oP l.length cP, .slice oh hs.length ch], .blk b3 26 [.slice oA atoms.length cA, .slice oR rs.length cR]] w) _ _ (by exact ⟨0, o8, _, G, rfl, Nat.zero_le _, rfl, Le.refl _, hS⟩) ((Sub.cons rfl (Sub.cons rfl (Sub.cons rfl (Sub.cons rfl (Sub.cons rfl (Sub.cons rfl Sub.nil))))))) ?_
  clear hS
  rintro e w n ⟨j, o8, c8, Gj, rfl, hj, rfl, hlk, hS⟩
  refine cw_seq ?_
  refine cw_seq ?_
  refine cw_region ?_
  refine ol_pure rfl (op_move rfl) ?_
  refine ol_pure rfl (op_fieldAddr fld_37_1 rfl) ?_
  refine ol_load rfl (op_load1 one_28 rfl (fun w hw => (hw.bcell (i := 0) rfl).trans rfl)) hS ?_
  refine ol_pure rfl (op_len sl_28 rfl rfl) ?_
  refine ol_pure rfl (op_lss rfl rfl) ?_
  refine ol_nil ?_
  refine pq_then ?_
  refine cw_cond rfl (fun h45 => ?_) (fun h45 => ?_)
  ·
   skip
   try simp only [decide_eq_true_eq, decide_eq_false_iff_not, Bool.not_eq_true', Bool.not_eq_false', Bool.not_eq_eq_eq_not, Bool.not_true, Bool.not_false] at h45
   have hjl : j < l[k].atoms.length := by omega
   obtain ⟨hoV, hcV, hbV⟩ := hvk.int hjl
   refine cw_skip ?_
   refine pq_then ?_
   refine cw_seq ?_
   refine cw_block ?_
   refine cw_seq ?_
   refine al_start' hS (hS.take 4) (by kernel_rfl) rfl (fun w hS hT => ?_)
   refine al_load (i := 0) rfl (by kernel_rfl) (by kernel_rfl) (by kernel_rfl) rfl (fun _ _ _ h => h) (by exact op_loadN agg_26 rfl (by rfl) (fun w hw k u hk => (hw.bcell (i := 3) rfl).trans hk)) rfl hT ?_
   refine al_take (i := 1) rfl (by kernel_rfl) (by kernel_rfl) (by kernel_rfl) rfl (fun _ _ _ h => h) (op_fieldAddr fld_37_1 rfl) rfl ?_
   refine al_load (i := 2) rfl (by kernel_rfl) (by kernel_rfl) (by kernel_rfl) rfl (fun _ _ _ h => h) (by exact op_load1 one_28 rfl (fun w hw => (hw.bcell (i := 0) rfl).trans rfl)) rfl hT ?_
   refine al_take (i := 3) rfl (by kernel_rfl) (by kernel_rfl) (by kernel_rfl) rfl (fun _ _ _ h => h) (op_move rfl) rfl ?_
   refine al_take (i := 4) rfl (by kernel_rfl) (by kernel_rfl) (by kernel_rfl) rfl (fun _ _ _ h => h) (op_indexN sl_28 rfl rfl (by omega) hoV) rfl ?_
   refine al_load (i := 5) rfl (by kernel_rfl) (by kernel_rfl) (by kernel_rfl) rfl (fun _ _ _ h => h) (by exact op_load1 one_3 rfl (fun w hw => hw.gcell0 hcV)) rfl hT ?_
   refine al_step (i := 6) rfl (by kernel_rfl) rfl (op_call_fr hS cf_56 rfl (R16_Of_c _ _ hS.hold hE _ _ atoms rs (h1.mono hE hlk) (h2.mono ERule.mono hlk) hP l[k].atoms[j])) ?_
   clear hS
   rintro v54 w ⟨F54, Gf, hR54, hF54, hf54, hl54, hS⟩
   obtain ⟨o54, c54, rfl, _, _⟩ := hR54.elim
   have hOf := hR54.mono EInt.mono hf54
   have hOle := hOf.le
   have hlf := hlk.trans hl54
   have hT := hT.back hS (by first | exact Le.refl _ | assumption) (fun x hx => by try simp only [List.take_succ_cons, List.take_zero, List.mem_cons, List.not_mem_nil, or_false] at hx; (rcases hx with rfl | rfl | rfl | rfl) <;> simp)
   refine ⟨fun _ _ => hT, ?_⟩
   refine al_take (i := 7) rfl (by kernel_rfl) (by kernel_rfl) (by kernel_rfl) rfl (fun _ _ _ h => h) (op_assign rfl) rfl ?_
   refine al_done (by kernel_rfl) ?_
   refine pq_then ?_
   refine cw_seq ?_
   refine cw_region ?_
   refine ol_pure rfl (op_assign rfl) ?_
   refine ol_nil ?_
   refine pq_then ?_
   refine cw_block ?_
   refine cw_loop (fun e w n => ∃ (q : Nat) (o8 : Option Addr) (c8 : Nat), e = [(2, .int .i64 (k : Nat)), (3, .pointer (some ⟨b3, 0, none⟩)), (4, .pointer (some ⟨b4, 0, none⟩)), (7, .pointer (some ⟨b7, 0, none⟩)), (8, .slice o8 ((l[k].atoms.take j).flatMap (atomR rs l (knownI atoms.length l) k l[k].atoms) ++ ((ofI rs l[k].atoms[j]).take q).flatMap (reasR rs l (knownI atoms.length l) k l[k].atoms)).length c8), (9, .int .i64 (j : Nat)), (10, .slice o54 (ofI rs l[k].atoms[j]).length c54), (11, .int .i64 (q : Nat))] ∧ q ≤ (ofI rs l[k].atoms[j]).length ∧ n = (ofI rs l[k].atoms[j]).length - q ∧ SS G w0 Gf [.blk b7 37 [.int .i64 l[k].rule, .slice ov l[k].atoms.length cv], .row o8 ((l[k].atoms.take j).flatMap (atomR rs l (knownI atoms.length l) k l[k].atoms) ++ ((ofI rs l[k].atoms[j]).take q).flatMap (reasR rs l (knownI atoms.length l) k l[k].atoms)).length c8 3 1 (((l[k].atoms.take j).flatMap (atomR rs l (knownI atoms.length l) k l[k].atoms) ++ ((ofI rs l[k].atoms[j]).take q).flatMap (reasR rs l (knownI atoms.length l) k l[k].atoms)).map (Value.int .i64)), .blk b4 34 [.slice oP l.length cP, .slice oh hs.length ch], .blk b3 26 [.slice oA atoms.length cA, .slice oR rs.length cR]] w) _ _ (by exact ⟨0, o8, c8, by rw [show (((ofI rs l[k].atoms[j]).take 0).flatMap (reasR rs l (knownI atoms.length l) k l[k].atoms)) = [] from rfl, List.append_nil], Nat.zero_le _, rfl, by rw [show (((ofI rs l[k].atoms[j]).take 0).flatMap (reasR rs l (knownI atoms.length l) k l[k].atoms)) = [] from rfl, List.append_nil]; exact hS⟩) ((Sub.cons rfl (Sub.cons rfl (Sub.cons rfl (Sub.cons rfl (Sub.cons rfl (Sub.cons rfl (Sub.cons rfl (Sub.cons rfl Sub.nil))))))))) ?_
   clear hS
   rintro e w n ⟨q, o8, c8, rfl, hq0, rfl, hS⟩
   refine cw_seq ?_
   refine cw_seq ?_
   refine cw_region ?_
   refine ol_pure rfl (op_move rfl) ?_
   refine ol_pure rfl (op_move rfl) ?_
   refine ol_pure rfl (op_len sl_28 rfl rfl) ?_
   refine ol_pure rfl (op_lss rfl rfl) ?_
   refine ol_nil ?_
   refine pq_then ?_
   refine cw_cond rfl (fun h58 => ?_) (fun h58 => ?_)
   ·
    skip
    try simp only [decide_eq_true_eq, decide_eq_false_iff_not, Bool.not_eq_true', Bool.not_eq_false', Bool.not_eq_eq_eq_not, Bool.not_true, Bool.not_false] at h58
    have hql : q < (ofI rs l[k].atoms[j]).length := by omega
    obtain ⟨hoF, hcF, hbF⟩ := hOf.int hql
    obtain ⟨x, hx, hxe, hxh⟩ := ofI_mem (List.getElem_mem hql)
    have hrok := (hP.rule _ (List.getElem_mem hx)).1
    obtain ⟨hoR, _, _, ⟨p, r, rfl, hp, hq, hhd⟩, hcellR⟩ := h2.el hx
    obtain ⟨op, cp, rfl, _, _⟩ := hp.elim
    obtain ⟨oq, cq, rfl, _, _⟩ := hq.elim
    have hrl := reasons_len (l := l) (m := (knownI atoms.length l)) (k := k) hPm hak j q l[k].atoms[j]
    have hfs := flatMap_succ (reasR rs l (knownI atoms.length l) k l[k].atoms) (ofI rs l[k].atoms[j]) hql
    rw [hxe, reasR_at hx] at hfs
    refine cw_skip ?_
    refine pq_then ?_
    refine cw_seq ?_
    refine cw_block ?_
    refine cw_seq ?_
    refine al_start' hS (hS.take 4) (by kernel_rfl) rfl (fun w hS hT => ?_)
    refine al_load (i := 0) rfl (by kernel_rfl) (by kernel_rfl) (by kernel_rfl) rfl (fun _ _ _ h => h) (by exact op_loadN agg_26 rfl (by rfl) (fun w hw k u hk => (hw.bcell (i := 3) rfl).trans hk)) rfl hT ?_
    refine al_load (i := 1) rfl (by kernel_rfl) (by kernel_rfl) (by kernel_rfl) rfl (fun _ _ _ h => h) (by exact op_loadN agg_34 rfl (by rfl) (fun w hw k u hk => (hw.bcell (i := 2) rfl).trans hk)) rfl hT ?_
    refine al_take (i := 2) rfl (by kernel_rfl) (by kernel_rfl) (by kernel_rfl) rfl (fun _ _ _ h => h) (op_move rfl) rfl ?_
    refine al_take (i := 3) rfl (by kernel_rfl) (by kernel_rfl) (by kernel_rfl) rfl (fun _ _ _ h => h) (op_fieldAddr fld_26_1 rfl) rfl ?_
    refine al_load (i := 4) rfl (by kernel_rfl) (by kernel_rfl) (by kernel_rfl) rfl (fun _ _ _ h => h) (by exact op_load1 one_22 rfl (fun w hw => (hw.bcell (i := 3) rfl).trans rfl)) rfl hT ?_
    refine al_take (i := 5) rfl (by kernel_rfl) (by kernel_rfl) (by kernel_rfl) rfl (fun _ _ _ h => h) (op_move rfl) rfl ?_
    refine al_take (i := 6) rfl (by kernel_rfl) (by kernel_rfl) (by kernel_rfl) rfl (fun _ _ _ h => h) (op_move rfl) rfl ?_
    refine al_take (i := 7) rfl (by kernel_rfl) (by kernel_rfl) (by kernel_rfl) rfl (fun _ _ _ h => h) (op_indexN sl_28 rfl rfl (by omega) hoF) rfl ?_
    refine al_load (i := 8) rfl (by kernel_rfl) (by kernel_rfl) (by kernel_rfl) rfl (fun _ _ _ h => h) (by exact op_load1 one_3 rfl (fun w hw => (hw.gcell hcF).trans (by rw [hxe]))) rfl hT ?_
    refine al_take (i := 9) rfl (by kernel_rfl) (by kernel_rfl) (by kernel_rfl) rfl (fun _ _ _ h => h) (op_indexN sl_22 rfl rfl (by omega) hoR) rfl ?_
    refine al_load (i := 10) rfl (by kernel_rfl) (by kernel_rfl) (by kernel_rfl) rfl (fun _ _ _ h => h) (by exact op_loadN agg_30 rfl (by rfl) (fun w hw k u hk => hw.gcell (hlf.cell (hcellR _ u hk)))) rfl hT ?_
    refine al_step (i := 11) rfl (by kernel_rfl) rfl (op_call_sc hS cf_70 rfl (R21_reason_c _ _ hS.hold hE _ _ atoms rs (h1.mono hE hlf) (h2.mono ERule.mono hlf) hP _ _ l hs (h5.mono EStep.mono hlf) (h6.mono EInt.mono hlf) k hk rs[x] _ _ (hp.mono EInt.mono hlf) (hq.mono EInt.mono hlf) hrok)) ?_
    clear hS
    rintro _ w ⟨rfl, hS⟩
    have hT := hT.back hS (by first | exact Le.refl _ | assumption) (fun x hx => by try simp only [List.take_succ_cons, List.take_zero, List.mem_cons, List.not_mem_nil, or_false] at hx; (rcases hx with rfl | rfl | rfl | rfl) <;> simp)
    refine ⟨fun _ _ => hT, ?_⟩
    refine al_take (i := 12) rfl (by kernel_rfl) (by kernel_rfl) (by kernel_rfl) rfl (fun _ _ _ h => h) (op_assign rfl) rfl ?_
    refine al_done (by kernel_rfl) ?_
    refine pq_then ?_
    refine cw_seq ?_
    refine cw_region ?_
    refine ol_pure rfl (op_move rfl) ?_
    refine ol_pure rfl (op_geq rfl rfl) ?_
    refine ol_nil ?_
    refine pq_then ?_
    refine cw_cond rfl (fun h74 => ?_) (fun h74 => ?_)
    ·
     skip
     try simp only [decide_eq_true_eq, decide_eq_false_iff_not, Bool.not_eq_true', Bool.not_eq_false', Bool.not_eq_eq_eq_not, Bool.not_true, Bool.not_false] at h74
     obtain ⟨z, hz⟩ : ∃ z, reasonI l (knownI atoms.length l) k l[k].atoms rs[x] = [z] := by
       have h8 := reasonI_len l (knownI atoms.length l) k l[k].atoms rs[x]
       match hre : reasonI l (knownI atoms.length l) k l[k].atoms rs[x] with
       | [] => rw [hre] at h74; exact absurd h74 (by decide)
       | [z] => exact ⟨z, rfl⟩
       | z :: y :: t => rw [hre] at h8; simp at h8
     rw [hz] at hfs ⊢
     have hzb : -9223372036854775808 ≤ z ∧ z ≤ 9223372036854775807 := by
       have h9 := reasonI_mem (a := z) (by rw [hz]; simp)
       rcases h9.1 with h9 | h9
       · have := hrok.2.1 z h9.1; omega
       · have := hrok.2.2 z h9.1; omega
     refine cw_region ?_
     refine ol_pure rfl (op_move rfl) ?_
     refine ol_pure rfl (op_move rfl) ?_
     refine ol_step rfl (op_buildSlice (el := 3) (is := [0]) (xs := [.tmp 76]) (sz := 1) (cs := [.int .i64 z]) hS rfl rfl (fun w => by kernel_rfl) rfl (by decide)) ?_
     clear hS
     rintro _ w ⟨s77, rfl, hS⟩
     refine ol_step rfl (op_append (j := 2) hS sl_28 el_3 rfl rfl rfl rfl rfl rfl (by decide) (hS.news (j := 0) rfl) (by simp [Value.oneCell']) (by omega) (by unfold maxLen; omega)) ?_
     clear hS
     rintro _ w ⟨o8n, c_o8n, rfl, hS⟩; (try simp only [List.nil_append, List.cons_append, List.set] at hS); replace hS := SS.drop [] hS; (try simp only [List.nil_append, List.cons_append] at hS)
     refine ol_pure rfl (op_assign rfl) ?_
     refine ol_nil ?_
     refine pq_in_normal ?_
     refine pq_then ?_
     refine cw_region ?_
     refine ol_pure rfl (op_move rfl) ?_
     refine ol_pure rfl (op_add rfl rfl (by omega) (by omega)) ?_
     refine ol_pure rfl (op_assign rfl) ?_
     refine ol_nil ?_
     refine pq_loop _ _ (by exact ⟨q + 1, o8n, c_o8n, by rw [hfs, ← List.append_assoc, List.length_append], by omega, rfl, by rw [hfs, ← List.append_assoc, List.length_append, List.map_append]; exact hS⟩) ((Sub.cons rfl (Sub.cons rfl (Sub.cons rfl (Sub.cons rfl (Sub.cons rfl (Sub.cons rfl (Sub.cons rfl (Sub.cons rfl Sub.nil))))))))) (by omega)
    ·
     skip
     try simp only [decide_eq_true_eq, decide_eq_false_iff_not, Bool.not_eq_true', Bool.not_eq_false', Bool.not_eq_eq_eq_not, Bool.not_true, Bool.not_false] at h74
     have hz : reasonI l (knownI atoms.length l) k l[k].atoms rs[x] = [] := by
       match hre : reasonI l (knownI atoms.length l) k l[k].atoms rs[x] with
       | [] => rfl
       | z :: t =>
         rw [hre] at h74
         have h9 := reasonI_mem (a := z) (by rw [hre]; simp)
         have h0 : 0 ≤ z := by
           rcases h9.1 with h9 | h9
           · exact (hrok.2.1 z h9.1).1
           · exact (hrok.2.2 z h9.1).1
         exact absurd h0 h74
     rw [hz, List.append_nil] at hfs
     refine cw_skip ?_
     refine pq_in_normal ?_
     refine pq_then ?_
     refine cw_region ?_
     refine ol_pure rfl (op_move rfl) ?_
     refine ol_pure rfl (op_add rfl rfl (by omega) (by omega)) ?_
     refine ol_pure rfl (op_assign rfl) ?_
     refine ol_nil ?_
     refine pq_loop _ _ (by exact ⟨q + 1, o8, c8, by rw [hfs], by omega, rfl, by rw [hfs]; exact hS⟩) ((Sub.cons rfl (Sub.cons rfl (Sub.cons rfl (Sub.cons rfl (Sub.cons rfl (Sub.cons rfl (Sub.cons rfl (Sub.cons rfl Sub.nil))))))))) (by omega)
   ·
    skip
    try simp only [decide_eq_true_eq, decide_eq_false_iff_not, Bool.not_eq_true', Bool.not_eq_false', Bool.not_eq_eq_eq_not, Bool.not_true, Bool.not_false] at h58
    have hfe := flatMap_succ (atomR rs l (knownI atoms.length l) k l[k].atoms) l[k].atoms hjl
    rw [List.take_of_length_le (show (ofI rs l[k].atoms[j]).length ≤ q by omega)] at hS ⊢
    refine cw_exit ?_
    refine pq_exit ?_
    refine pq_exit ?_
    refine pq_in_exit ?_
    refine pq_in_normal ?_
    refine pq_then ?_
    refine cw_region ?_
    refine ol_pure rfl (op_move rfl) ?_
    refine ol_pure rfl (op_add rfl rfl (by omega) (by omega)) ?_
    refine ol_pure rfl (op_assign rfl) ?_
    refine ol_nil ?_
    refine pq_loop _ _ (by exact ⟨j + 1, o8, c8, Gf, by rw [hfe], by omega, rfl, hlf, by rw [hfe]; exact hS⟩) ((Sub.cons rfl (Sub.cons rfl (Sub.cons rfl (Sub.cons rfl (Sub.cons rfl (Sub.cons rfl Sub.nil))))))) (by omega)
  ·
   skip
   try simp only [decide_eq_true_eq, decide_eq_false_iff_not, Bool.not_eq_true', Bool.not_eq_false', Bool.not_eq_eq_eq_not, Bool.not_true, Bool.not_false] at h45
   refine cw_exit ?_
   refine pq_exit ?_
   refine pq_exit ?_
   refine pq_in_exit ?_
   refine pq_then ?_
   refine cw_seq ?_
   refine cw_region ?_
   refine ol_pure rfl (op_move rfl) ?_
   refine ol_pure rfl (op_assign rfl) ?_
   refine ol_nil ?_
   refine pq_then ?_
   refine cw_ret ?_
   refine ret1 rfl rfl ?_
   rw [List.take_of_length_le (show l[k].atoms.length ≤ j by omega)] at hS ⊢
   refine hS.rt_row (zs := (leansI rs l (knownI atoms.length l) k l[k])) [_] (by decide) ?_ EInt.mono (by rw [leansI_set (by omega)])
   rw [leansI_set (by omega)]
   exact Rows.ints (l := l[k].atoms.flatMap (atomR rs l (knownI atoms.length l) k l[k].atoms)) (fun x hx => by
     have h9 := leansI_range (rs := rs) (l := l) (m := (knownI atoms.length l)) (k := k) hP (s := l[k]) (a := x) (by rw [leansI_set (by omega)]; exact hx)
     omega)
end Go.Proofs.Ytmkgechdfimfnaa.K
