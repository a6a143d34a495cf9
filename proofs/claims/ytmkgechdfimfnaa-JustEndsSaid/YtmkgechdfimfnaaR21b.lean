/-
  The document for layer 21: what is told, what holds up, which steps hold, whether two proofs are the same.
  No condition but the premises that each theorem names.
-/
import Derived.Test.YtmkgechdfimfnaaR21a
namespace Go.Proofs.Ytmkgechdfimfnaa.K
open Go Go.RowKit
set_option linter.unusedVariables false
set_option linter.unusedSimpArgs false

open Pl
theorem steps_take {a b : List Step} {k : Nat} (ha : k < a.length) (hb : k < b.length) (h : a.take k = b.take k) (hr : a[k].rule = b[k].rule) (hs : a[k].atoms = b[k].atoms) : a.take (k + 1) = b.take (k + 1) := by
  have he : a[k] = b[k] := by
    cases hx : a[k]; cases hy : b[k]
    rw [hx] at hr hs
    rw [hy] at hr hs
    simp_all
  rw [List.take_succ_eq_append_getElem ha, List.take_succ_eq_append_getElem hb, h, he]
theorem steps_eq {a b : List Step} {k : Nat} (hl : a.length = b.length) (hk : a.length ≤ k) (h : a.take k = b.take k) : a = b := by
  rwa [List.take_of_length_le hk, List.take_of_length_le (by omega)] at h

set_option maxRecDepth 100000 in

theorem R21_Own_c {G0 G : GH} {w0 w : World} {M : List Ent} {α : Type} {E : ER α} (hS : SS G0 w0 G M w) (va vr : Value) (atoms : List α) (h1 : RSl 1 E G va atoms) (hvr : ∃ oR nR cR, vr = .slice oR nR cR) (hn : atoms.length ≤ 1000) :
   Calls Try.prog 23 #[.agg #[va, vr]] w (fun en w' => ∃ v, en = .returned v ∧ ∃ oa c, v = .slice oa atoms.length c ∧ SS G0 w0 G (.row oa atoms.length c 3 1 ((startI atoms.length).map (Value.int .i64)) :: M) w') := by
 obtain ⟨oA, cA, rfl, hlA, hmA⟩ := h1.elim
 obtain ⟨oR, nR, cR, rfl⟩ := hvr
 refine enter Try.func23 rfl (N := 17) rfl (Nat.le_of_ble_eq_true rfl) ?_
 refine cw_seq ?_
 refine cw_region ?_
 refine ol_step rfl (op_box hS rfl rfl) ?_
 clear hS
 rintro _ w ⟨b1, rfl, hS⟩
 refine ol_pure rfl (op_assign rfl) ?_
 refine ol_nil ?_
 refine pq_then ?_
 refine cw_seq ?_
 refine cw_region ?_
 refine ol_step rfl (op_buildSlice (el := 3) (is := []) (xs := []) (sz := 1) (cs := []) hS rfl rfl (fun w => by kernel_rfl) rfl (by decide)) ?_
 clear hS
 rintro _ w ⟨o3, rfl, hS⟩
 refine ol_pure rfl (op_assign rfl) ?_
 refine ol_nil ?_
 refine pq_then ?_
 refine cw_seq ?_
 refine cw_seq ?_
 refine cw_region ?_
 refine ol_pure rfl (op_assign rfl) ?_
 refine ol_nil ?_
 refine pq_then ?_
 refine cw_block ?_
 refine cw_loop (fun e w n => ∃ k o3 c3, e = [(1, .pointer (some ⟨b1, 0, none⟩)), (3, .slice o3 k c3), (4, .int .i64 (k : Nat))] ∧ k ≤ atoms.length ∧ n = atoms.length - k ∧ SS G0 w0 G (.row o3 k c3 3 1 ((List.replicate k (1 : Int)).map (Value.int .i64)) :: .blk b1 26 [.slice oA atoms.length cA, .slice oR nR cR] :: M) w) _ _ (by exact ⟨0, o3, _, rfl, Nat.zero_le _, rfl, hS⟩) ((Sub.cons rfl (Sub.cons rfl (Sub.cons rfl Sub.nil)))) ?_
 clear hS
 rintro e w n ⟨k, o3, c3, rfl, hk, rfl, hS⟩
 refine cw_seq ?_
 refine cw_seq ?_
 refine cw_region ?_
 refine ol_pure rfl (op_move rfl) ?_
 refine ol_pure rfl (op_fieldAddr fld_26_0 rfl) ?_
 refine ol_load rfl (op_load1 one_24 rfl (fun w hw => (hw.bcell (i := 1) rfl).trans rfl)) hS ?_
 refine ol_pure rfl (op_len sl_24 rfl rfl) ?_
 refine ol_pure rfl (op_lss rfl rfl) ?_
 refine ol_nil ?_
 refine pq_then ?_
 refine cw_cond rfl (fun h10 => ?_) (fun h10 => ?_)
 ·
  skip
  try simp only [decide_eq_true_eq, decide_eq_false_iff_not, Bool.not_eq_true', Bool.not_eq_false', Bool.not_eq_eq_eq_not, Bool.not_true, Bool.not_false] at h10
  have hlt : k < atoms.length := by omega
  refine cw_skip ?_
  refine pq_then ?_
  refine cw_seq ?_
  refine cw_block ?_
  refine cw_region ?_
  refine ol_pure rfl (op_move rfl) ?_
  refine ol_step rfl (op_buildSlice (el := 3) (is := [0]) (xs := [.const (.int .i64 (1))]) (sz := 1) (cs := [.int .i64 (1)]) hS rfl rfl (fun w => by kernel_rfl) rfl (by decide)) ?_
  clear hS
  rintro _ w ⟨s14, rfl, hS⟩
  refine ol_step rfl (op_append (j := 1) hS sl_28 el_3 rfl rfl rfl rfl rfl rfl (by decide) (hS.news (j := 0) rfl) (by simp [Value.oneCell']) (by omega) (by unfold maxLen; omega)) ?_
  clear hS
  rintro _ w ⟨o3n, c_o3n, rfl, hS⟩; (try simp only [List.nil_append, List.cons_append, List.set] at hS); replace hS := SS.drop [] hS; (try simp only [List.nil_append, List.cons_append] at hS)
  refine ol_pure rfl (op_assign rfl) ?_
  refine ol_nil ?_
  refine pq_in_normal ?_
  refine pq_then ?_
  refine cw_region ?_
  refine ol_pure rfl (op_move rfl) ?_
  refine ol_pure rfl (op_add rfl rfl (by omega) (by omega)) ?_
  refine ol_pure rfl (op_assign rfl) ?_
  refine ol_nil ?_
  refine pq_loop _ _ (by exact ⟨k + 1, o3n, c_o3n, rfl, by omega, rfl, by rw [List.replicate_succ']; simpa using hS⟩) ((Sub.cons rfl (Sub.cons rfl (Sub.cons rfl Sub.nil)))) (by omega)
 ·
  skip
  try simp only [decide_eq_true_eq, decide_eq_false_iff_not, Bool.not_eq_true', Bool.not_eq_false', Bool.not_eq_eq_eq_not, Bool.not_true, Bool.not_false] at h10
  refine cw_exit ?_
  refine pq_exit ?_
  refine pq_exit ?_
  refine pq_in_exit ?_
  refine pq_then ?_
  refine cw_seq ?_
  refine cw_region ?_
  refine ol_pure rfl (op_move rfl) ?_
  refine ol_pure rfl (op_assign rfl) ?_
  refine ol_nil ?_
  refine pq_then ?_
  refine cw_ret ?_
  refine ret1 rfl rfl ?_
  have hk0 : k = atoms.length := by omega
  subst hk0
  exact ⟨_, rfl, o3, c3, rfl, SS.drop [_] hS⟩
set_option maxRecDepth 100000 in
set_option maxHeartbeats 1000000 in

theorem R21_so_c (G : GH) (w0 : World) (hG : Holds G w0) {α : Type} {E : ER α} (hE : EMono E) (va vr : Value) (atoms : List α) (rs : List Rule) (h1 : RSl 1 E G va atoms) (h2 : RSl 3 ERule G vr rs) (hP : PrOk atoms.length rs) (vm : Value) (m : List Int) (h3 : RSl 1 EInt G vm m) (hm : m.length = atoms.length) :
   Calls Try.prog 50 #[.agg #[va, vr], vm] w0 (Sc w0 (.int .i64 (fireI rs m))) := by
 obtain ⟨oA, cA, rfl, hlA, hmA⟩ := h1.elim
 obtain ⟨oR, cR, rfl, hlR, hmR⟩ := h2.elim
 have hle1 := h1.le
 have hle2 := h2.le
 have hPn := hP.n_le
 have hPm := hP.m_le
 obtain ⟨oM, cM, rfl, hlM, hmM⟩ := h3.elim
 have hMle := h3.le
 refine enter Try.func50 rfl (N := 38) rfl (Nat.le_of_ble_eq_true rfl) ?_
 have hS := SS.init hG
 refine cw_seq ?_
 refine cw_region ?_
 refine ol_step rfl (op_box hS rfl rfl) ?_
 clear hS
 rintro _ w ⟨b2, rfl, hS⟩
 refine ol_pure rfl (op_assign rfl) ?_
 refine ol_nil ?_
 refine pq_then ?_
 refine cw_seq ?_
 refine cw_seq ?_
 refine cw_region ?_
 refine ol_pure rfl (op_assign rfl) ?_
 refine ol_nil ?_
 refine pq_then ?_
 refine cw_block ?_
 refine cw_loop (fun e w n => ∃ k : Nat, e = [(1, .slice oM m.length cM), (2, .pointer (some ⟨b2, 0, none⟩)), (5, .int .i64 (k : Nat))] ∧ k ≤ rs.length ∧ n = rs.length - k ∧ (∀ (i : Nat) (hi : i < rs.length), i < k → (fun r => decide (valI m r.head = 1) && firesB m r) rs[i] = false) ∧ SS G w0 G [.blk b2 26 [.slice oA atoms.length cA, .slice oR rs.length cR]] w) _ _ (by exact ⟨0, rfl, Nat.zero_le _, rfl, (fun i _ h => absurd h (Nat.not_lt_zero _)), hS⟩) ((Sub.cons rfl (Sub.cons rfl (Sub.cons rfl Sub.nil)))) ?_
 clear hS
 rintro e w n ⟨k, rfl, hk, rfl, hno, hS⟩
 refine cw_seq ?_
 refine cw_seq ?_
 refine cw_region ?_
 refine ol_pure rfl (op_move rfl) ?_
 refine ol_pure rfl (op_fieldAddr fld_26_1 rfl) ?_
 refine ol_load rfl (op_load1 one_22 rfl (fun w hw => (hw.bcell (i := 0) rfl).trans rfl)) hS ?_
 refine ol_pure rfl (op_len sl_22 rfl rfl) ?_
 refine ol_pure rfl (op_lss rfl rfl) ?_
 refine ol_nil ?_
 refine pq_then ?_
 refine cw_cond rfl (fun h11 => ?_) (fun h11 => ?_)
 ·
  skip
  try simp only [decide_eq_true_eq, decide_eq_false_iff_not, Bool.not_eq_true', Bool.not_eq_false', Bool.not_eq_eq_eq_not, Bool.not_true, Bool.not_false] at h11
  have hlt : k < rs.length := by omega
  have hrk := (hP.rule _ (List.getElem_mem hlt)).1
  obtain ⟨hoa, cs, hcl, ⟨p, q, rfl, hp, hq, hhd⟩, hcells⟩ := h2.el hlt
  obtain ⟨op, cp, hpe, hlp, hmp⟩ := hp.elim
  obtain ⟨oq, cq, hqe, hlq, hmq⟩ := hq.elim
  subst hpe
  subst hqe
  have hple := hp.le
  have hrm : RuleOk m.length rs[k] := by rw [hm]; exact hrk
  obtain ⟨hh, hhe⟩ := Int.eq_ofNat_of_zero_le hrm.1.1
  have hhn : hh < m.length := by have := hrm.1.2; omega
  obtain ⟨hoM, hcM, _⟩ := h3.int hhn
  have hvh : valI m rs[k].head = m[hh] := by rw [hhe]; exact val_at' hhn
  refine cw_skip ?_
  refine pq_then ?_
  refine cw_seq ?_
  refine cw_block ?_
  refine cw_seq ?_
  refine cw_region ?_
  refine ol_pure rfl (op_fieldAddr fld_26_1 rfl) ?_
  refine ol_load rfl (op_load1 one_22 rfl (fun w hw => (hw.bcell (i := 0) rfl).trans rfl)) hS ?_
  refine ol_pure rfl (op_move rfl) ?_
  refine ol_pure rfl (op_indexN sl_22 rfl rfl (by omega) hoa) ?_
  refine ol_load rfl (op_loadN agg_30 rfl (by rfl) (fun w hw k u hk => hw.gcell (hcells k u hk))) hS ?_
  refine ol_step rfl (op_alloc hS el_30 rfl) ?_
  clear hS
  rintro _ w ⟨b6, rfl, hS⟩
  refine ol_step0  (op_storeN (j := 0) hS sz_30 rfl rfl rfl rfl rfl (by simp [Value.oneCell'])) ?_
  clear hS
  rintro _ w hS; (try simp only [List.nil_append, List.cons_append, List.set] at hS)
  refine ol_nil ?_
  refine pq_then ?_
  refine cw_seq ?_
  refine cw_region ?_
  refine ol_pure rfl (op_move rfl) ?_
  refine ol_pure rfl (op_fieldAddr fld_30_0 rfl) ?_
  refine ol_load rfl (op_load1 one_3 rfl (fun w hw => (hw.bcell (i := 0) rfl).trans rfl)) hS ?_
  refine ol_pure rfl (op_indexAddr sl_28 rfl rfl (by omega) (by omega) hoM) ?_
  refine ol_load rfl (op_load1 one_3 rfl (fun w hw => hw.gcell (by rw [hhe]; exact hcM))) hS ?_
  refine ol_pure rfl (op_eql rfl rfl) ?_
  refine ol_pure rfl (op_move rfl) ?_
  refine ol_split (fun h25 => ?_) (fun h25 => ?_)
  ·
   skip
   try simp only [decide_eq_true_eq, decide_eq_false_iff_not, Bool.not_eq_true', Bool.not_eq_false', Bool.not_eq_eq_eq_not, Bool.not_true, Bool.not_false] at h25
   refine ol_guard_pure rfl rfl rfl (op_move rfl) ?_
   refine ol_guard_pure rfl rfl rfl (op_fieldAddr fld_30_1 rfl) ?_
   refine ol_guard_load rfl rfl rfl (op_load1 one_28 rfl (fun w hw => (hw.bcell (i := 0) rfl).trans rfl)) hS ?_
   refine ol_guard_step rfl rfl rfl (op_call_sc hS cf_27 rfl (R21_All_c G _ hS.hold _ m h3 _ rs[k].pos 2 hp hrm.2.1)) ?_
   clear hS
   rintro _ w ⟨rfl, hS⟩
   refine ol_pure rfl (op_pick_t rfl rfl) ?_
   refine ol_pure rfl (op_move rfl) ?_
   refine ol_split (fun h31 => ?_) (fun h31 => ?_)
   ·
    skip
    try simp only [decide_eq_true_eq, decide_eq_false_iff_not, Bool.not_eq_true', Bool.not_eq_false', Bool.not_eq_eq_eq_not, Bool.not_true, Bool.not_false] at h31
    refine ol_guard_pure rfl rfl rfl (op_move rfl) ?_
    refine ol_guard_pure rfl rfl rfl (op_fieldAddr fld_30_2 rfl) ?_
    refine ol_guard_load rfl rfl rfl (op_load1 one_28 rfl (fun w hw => (hw.bcell (i := 0) rfl).trans rfl)) hS ?_
    refine ol_guard_step rfl rfl rfl (op_call_sc hS cf_27 rfl (R21_All_c G _ hS.hold _ m h3 _ rs[k].neg 0 hq hrm.2.2)) ?_
    clear hS
    rintro _ w ⟨rfl, hS⟩
    refine ol_pure rfl (op_pick_t rfl rfl) ?_
    refine ol_nil ?_
    refine pq_then ?_
    refine cw_cond rfl (fun h36 => ?_) (fun h36 => ?_)
    ·
     skip
     try simp only [decide_eq_true_eq, decide_eq_false_iff_not, Bool.not_eq_true', Bool.not_eq_false', Bool.not_eq_eq_eq_not, Bool.not_true, Bool.not_false] at h36
     refine cw_seq ?_
     refine cw_region ?_
     refine ol_pure rfl (op_move rfl) ?_
     refine ol_pure rfl (op_assign rfl) ?_
     refine ol_nil ?_
     refine pq_then ?_
     refine cw_ret ?_
     refine pq_in_ret ?_
     refine pq_ret ?_
     refine pq_ret ?_
     refine pq_in_ret ?_
     refine pq_ret ?_
     refine ret1 rfl rfl ?_
     exact hS.sc_i (findP_at hlt (by rw [hvh, firesB]; simp_all) hno).symm
    ·
     skip
     try simp only [decide_eq_true_eq, decide_eq_false_iff_not, Bool.not_eq_true', Bool.not_eq_false', Bool.not_eq_eq_eq_not, Bool.not_true, Bool.not_false] at h36
     refine cw_skip ?_
     refine pq_in_normal ?_
     refine pq_then ?_
     refine cw_region ?_
     refine ol_pure rfl (op_move rfl) ?_
     refine ol_pure rfl (op_add rfl rfl (by omega) (by omega)) ?_
     refine ol_pure rfl (op_assign rfl) ?_
     refine ol_nil ?_
     refine pq_loop _ _ (by exact (by
         have hS := SS.drop [] hS
         exact ⟨k + 1, rfl, by omega, rfl, (fun i hi hik => by rcases Nat.lt_succ_iff_lt_or_eq.1 hik with hh | rfl; exact hno i hi hh; show (decide (valI m rs[i].head = 1) && firesB m rs[i]) = false; rw [hvh, firesB]; simp_all), hS⟩)) ((Sub.cons rfl (Sub.cons rfl (Sub.cons rfl Sub.nil)))) (by omega)
   ·
    skip
    try simp only [decide_eq_true_eq, decide_eq_false_iff_not, Bool.not_eq_true', Bool.not_eq_false', Bool.not_eq_eq_eq_not, Bool.not_true, Bool.not_false] at h31
    refine ol_guard_no rfl rfl rfl rfl ?_
    refine ol_guard_no rfl rfl rfl rfl ?_
    refine ol_guard_no rfl rfl rfl rfl ?_
    refine ol_guard_no rfl rfl rfl rfl ?_
    refine ol_pure rfl (op_pick_f rfl rfl) ?_
    refine ol_nil ?_
    refine pq_then ?_
    refine cw_cond_f rfl ?_
    refine cw_skip ?_
    refine pq_in_normal ?_
    refine pq_then ?_
    refine cw_region ?_
    refine ol_pure rfl (op_move rfl) ?_
    refine ol_pure rfl (op_add rfl rfl (by omega) (by omega)) ?_
    refine ol_pure rfl (op_assign rfl) ?_
    refine ol_nil ?_
    refine pq_loop _ _ (by exact (by
        have hS := SS.drop [] hS
        exact ⟨k + 1, rfl, by omega, rfl, (fun i hi hik => by rcases Nat.lt_succ_iff_lt_or_eq.1 hik with hh | rfl; exact hno i hi hh; show (decide (valI m rs[i].head = 1) && firesB m rs[i]) = false; rw [hvh, firesB]; simp_all), hS⟩)) ((Sub.cons rfl (Sub.cons rfl (Sub.cons rfl Sub.nil)))) (by omega)
  ·
   skip
   try simp only [decide_eq_true_eq, decide_eq_false_iff_not, Bool.not_eq_true', Bool.not_eq_false', Bool.not_eq_eq_eq_not, Bool.not_true, Bool.not_false] at h25
   refine ol_guard_no rfl rfl rfl rfl ?_
   refine ol_guard_no rfl rfl rfl rfl ?_
   refine ol_guard_no rfl rfl rfl rfl ?_
   refine ol_guard_no rfl rfl rfl rfl ?_
   refine ol_pure rfl (op_pick_f rfl rfl) ?_
   refine ol_pure rfl (op_move rfl) ?_
   refine ol_guard_no rfl rfl rfl rfl ?_
   refine ol_guard_no rfl rfl rfl rfl ?_
   refine ol_guard_no rfl rfl rfl rfl ?_
   refine ol_guard_no rfl rfl rfl rfl ?_
   refine ol_pure rfl (op_pick_f rfl rfl) ?_
   refine ol_nil ?_
   refine pq_then ?_
   refine cw_cond_f rfl ?_
   refine cw_skip ?_
   refine pq_in_normal ?_
   refine pq_then ?_
   refine cw_region ?_
   refine ol_pure rfl (op_move rfl) ?_
   refine ol_pure rfl (op_add rfl rfl (by omega) (by omega)) ?_
   refine ol_pure rfl (op_assign rfl) ?_
   refine ol_nil ?_
   refine pq_loop _ _ (by exact (by
       have hS := SS.drop [] hS
       exact ⟨k + 1, rfl, by omega, rfl, (fun i hi hik => by rcases Nat.lt_succ_iff_lt_or_eq.1 hik with hh | rfl; exact hno i hi hh; show (decide (valI m rs[i].head = 1) && firesB m rs[i]) = false; rw [hvh, firesB]; simp_all), hS⟩)) ((Sub.cons rfl (Sub.cons rfl (Sub.cons rfl Sub.nil)))) (by omega)
 ·
  skip
  try simp only [decide_eq_true_eq, decide_eq_false_iff_not, Bool.not_eq_true', Bool.not_eq_false', Bool.not_eq_eq_eq_not, Bool.not_true, Bool.not_false] at h11
  refine cw_exit ?_
  refine pq_exit ?_
  refine pq_exit ?_
  refine pq_in_exit ?_
  refine pq_then ?_
  refine cw_seq ?_
  refine cw_region ?_
  refine ol_pure rfl (op_assign rfl) ?_
  refine ol_nil ?_
  refine pq_then ?_
  refine cw_ret ?_
  refine ret1 rfl rfl ?_
  exact hS.sc_i (findP_none (by omega) hno).symm
set_option maxRecDepth 100000 in
set_option maxHeartbeats 1000000 in

theorem R21_Holds_c (G : GH) (w0 : World) (hG : Holds G w0) (vm : Value) (m : List Int) (h3 : RSl 1 EInt G vm m) (vd : Value) (hd : List Bool) (h4 : RSl 1 EBool G vd hd) (hlen : hd.length = m.length) (r : Rule) (p q : Value) (hp : RSl 1 EInt G p r.pos) (hq : RSl 1 EInt G q r.neg) (hr : RuleOk m.length r) :
   Calls Try.prog 26 #[vm, vd, .agg #[.int .i64 r.head, p, q]] w0 (Sc w0 (.bool (supD m hd r))) := by
 obtain ⟨oM, cM, rfl, hlM, hmM⟩ := h3.elim
 have hMle := h3.le
 obtain ⟨oD, cD, rfl, hlD, hmD⟩ := h4.elim
 obtain ⟨op, cp, rfl, _, _⟩ := hp.elim
 obtain ⟨oq, cq, rfl, _, _⟩ := hq.elim
 have hple := hp.le
 obtain ⟨hh, hhe⟩ := Int.eq_ofNat_of_zero_le hr.1.1
 have hhn : hh < m.length := by have := hr.1.2; omega
 obtain ⟨hoM, hcM, _⟩ := h3.int hhn
 obtain ⟨hoD, hcD⟩ := h4.bool (show hh < hd.length by omega)
 have hvh : valI m r.head = m[hh] := by rw [hhe]; exact val_at' hhn
 have hdh : hd.getD r.head.toNat false = hd[hh] := by rw [hhe]; simp [hlen, hhn]
 refine enter Try.func26 rfl (N := 60) rfl (Nat.le_of_ble_eq_true rfl) ?_
 have hS := SS.init hG
 refine cw_seq ?_
 refine cw_region ?_
 refine ol_step rfl (op_box hS rfl rfl) ?_
 clear hS
 rintro _ w ⟨b5, rfl, hS⟩
 refine ol_pure rfl (op_assign rfl) ?_
 refine ol_nil ?_
 refine pq_then ?_
 refine cw_seq ?_
 refine cw_seq ?_
 refine cw_region ?_
 refine ol_pure rfl (op_move rfl) ?_
 refine ol_pure rfl (op_fieldAddr fld_30_0 rfl) ?_
 refine ol_load rfl (op_load1 one_3 rfl (fun w hw => (hw.bcell (i := 0) rfl).trans rfl)) hS ?_
 refine ol_pure rfl (op_indexAddr sl_28 rfl rfl (by omega) (by omega) hoM) ?_
 refine ol_load rfl (op_load1 one_3 rfl (fun w hw => hw.gcell (by rw [hhe]; exact hcM))) hS ?_
 refine ol_pure rfl (op_neq rfl rfl) ?_
 refine ol_pure rfl (op_move rfl) ?_
 refine ol_split (fun h14 => ?_) (fun h14 => ?_)
 ·
  skip
  try simp only [decide_eq_true_eq, decide_eq_false_iff_not, Bool.not_eq_true', Bool.not_eq_false', Bool.not_eq_eq_eq_not, Bool.not_true, Bool.not_false] at h14
  refine ol_guard_no rfl rfl rfl rfl ?_
  refine ol_guard_no rfl rfl rfl rfl ?_
  refine ol_guard_no rfl rfl rfl rfl ?_
  refine ol_guard_no rfl rfl rfl rfl ?_
  refine ol_guard_no rfl rfl rfl rfl ?_
  refine ol_pure rfl (op_pick_t rfl rfl) ?_
  refine ol_pure rfl (op_move rfl) ?_
  refine ol_guard_no rfl rfl rfl rfl ?_
  refine ol_guard_no rfl rfl rfl rfl ?_
  refine ol_guard_no rfl rfl rfl rfl ?_
  refine ol_guard_no rfl rfl rfl rfl ?_
  refine ol_pure rfl (op_pick_t rfl rfl) ?_
  refine ol_pure rfl (op_move rfl) ?_
  refine ol_guard_no rfl rfl rfl rfl ?_
  refine ol_guard_no rfl rfl rfl rfl ?_
  refine ol_guard_no rfl rfl rfl rfl ?_
  refine ol_guard_no rfl rfl rfl rfl ?_
  refine ol_pure rfl (op_pick_t rfl rfl) ?_
  refine ol_nil ?_
  refine pq_then ?_
  refine cw_cond_t rfl ?_
  refine cw_seq ?_
  refine cw_region ?_
  refine ol_pure rfl (op_assign rfl) ?_
  refine ol_nil ?_
  refine pq_then ?_
  refine cw_ret ?_
  refine pq_ret ?_
  refine ret1 rfl rfl ?_
  exact hS.sc_b (by rw [supD, hvh, hdh]; simp_all)
 ·
  skip
  try simp only [decide_eq_true_eq, decide_eq_false_iff_not, Bool.not_eq_true', Bool.not_eq_false', Bool.not_eq_eq_eq_not, Bool.not_true, Bool.not_false] at h14
  refine ol_guard_pure rfl rfl rfl (op_move rfl) ?_
  refine ol_guard_pure rfl rfl rfl (op_fieldAddr fld_30_0 rfl) ?_
  refine ol_guard_load rfl rfl rfl (op_load1 one_3 rfl (fun w hw => (hw.bcell (i := 0) rfl).trans rfl)) hS ?_
  refine ol_guard_pure rfl rfl rfl (op_indexAddr sl_49 rfl rfl (by omega) (by omega) hoD) ?_
  refine ol_guard_load rfl rfl rfl (op_load1 one_4 rfl (fun w hw => hw.gcell (by rw [hhe]; exact hcD))) hS ?_
  refine ol_pure rfl (op_pick_f rfl rfl) ?_
  refine ol_pure rfl (op_move rfl) ?_
  refine ol_split (fun h21 => ?_) (fun h21 => ?_)
  ·
   skip
   try simp only [decide_eq_true_eq, decide_eq_false_iff_not, Bool.not_eq_true', Bool.not_eq_false', Bool.not_eq_eq_eq_not, Bool.not_true, Bool.not_false] at h21
   refine ol_guard_no rfl rfl rfl rfl ?_
   refine ol_guard_no rfl rfl rfl rfl ?_
   refine ol_guard_no rfl rfl rfl rfl ?_
   refine ol_guard_no rfl rfl rfl rfl ?_
   refine ol_pure rfl (op_pick_t rfl rfl) ?_
   refine ol_pure rfl (op_move rfl) ?_
   refine ol_guard_no rfl rfl rfl rfl ?_
   refine ol_guard_no rfl rfl rfl rfl ?_
   refine ol_guard_no rfl rfl rfl rfl ?_
   refine ol_guard_no rfl rfl rfl rfl ?_
   refine ol_pure rfl (op_pick_t rfl rfl) ?_
   refine ol_nil ?_
   refine pq_then ?_
   refine cw_cond_t rfl ?_
   refine cw_seq ?_
   refine cw_region ?_
   refine ol_pure rfl (op_assign rfl) ?_
   refine ol_nil ?_
   refine pq_then ?_
   refine cw_ret ?_
   refine pq_ret ?_
   refine ret1 rfl rfl ?_
   exact hS.sc_b (by rw [supD, hvh, hdh]; simp_all)
  ·
   skip
   try simp only [decide_eq_true_eq, decide_eq_false_iff_not, Bool.not_eq_true', Bool.not_eq_false', Bool.not_eq_eq_eq_not, Bool.not_true, Bool.not_false] at h21
   refine ol_guard_pure rfl rfl rfl (op_move rfl) ?_
   refine ol_guard_pure rfl rfl rfl (op_fieldAddr fld_30_1 rfl) ?_
   refine ol_guard_load rfl rfl rfl (op_load1 one_28 rfl (fun w hw => (hw.bcell (i := 0) rfl).trans rfl)) hS ?_
   refine ol_guard_step rfl rfl rfl (op_call_sc hS cf_57 rfl (R21_Any_c G _ hS.hold _ m h3 _ r.pos 0 hp hr.2.1)) ?_
   clear hS
   rintro _ w ⟨rfl, hS⟩
   refine ol_pure rfl (op_pick_f rfl rfl) ?_
   refine ol_pure rfl (op_move rfl) ?_
   refine ol_split (fun h27 => ?_) (fun h27 => ?_)
   ·
    skip
    try simp only [decide_eq_true_eq, decide_eq_false_iff_not, Bool.not_eq_true', Bool.not_eq_false', Bool.not_eq_eq_eq_not, Bool.not_true, Bool.not_false] at h27
    refine ol_guard_no rfl rfl rfl rfl ?_
    refine ol_guard_no rfl rfl rfl rfl ?_
    refine ol_guard_no rfl rfl rfl rfl ?_
    refine ol_guard_no rfl rfl rfl rfl ?_
    refine ol_pure rfl (op_pick_t rfl rfl) ?_
    refine ol_nil ?_
    refine pq_then ?_
    refine cw_cond_t rfl ?_
    refine cw_seq ?_
    refine cw_region ?_
    refine ol_pure rfl (op_assign rfl) ?_
    refine ol_nil ?_
    refine pq_then ?_
    refine cw_ret ?_
    refine pq_ret ?_
    refine ret1 rfl rfl ?_
    exact hS.sc_b (by rw [supD, hvh, hdh]; simp_all)
   ·
    skip
    try simp only [decide_eq_true_eq, decide_eq_false_iff_not, Bool.not_eq_true', Bool.not_eq_false', Bool.not_eq_eq_eq_not, Bool.not_true, Bool.not_false] at h27
    refine ol_guard_pure rfl rfl rfl (op_move rfl) ?_
    refine ol_guard_pure rfl rfl rfl (op_fieldAddr fld_30_2 rfl) ?_
    refine ol_guard_load rfl rfl rfl (op_load1 one_28 rfl (fun w hw => (hw.bcell (i := 0) rfl).trans rfl)) hS ?_
    refine ol_guard_step rfl rfl rfl (op_call_sc hS cf_57 rfl (R21_Any_c G _ hS.hold _ m h3 _ r.neg 2 hq hr.2.2)) ?_
    clear hS
    rintro _ w ⟨rfl, hS⟩
    refine ol_pure rfl (op_pick_f rfl rfl) ?_
    refine ol_nil ?_
    refine pq_then ?_
    refine cw_cond rfl (fun h32 => ?_) (fun h32 => ?_)
    ·
     skip
     try simp only [decide_eq_true_eq, decide_eq_false_iff_not, Bool.not_eq_true', Bool.not_eq_false', Bool.not_eq_eq_eq_not, Bool.not_true, Bool.not_false] at h32
     refine cw_seq ?_
     refine cw_region ?_
     refine ol_pure rfl (op_assign rfl) ?_
     refine ol_nil ?_
     refine pq_then ?_
     refine cw_ret ?_
     refine pq_ret ?_
     refine ret1 rfl rfl ?_
     exact hS.sc_b (by rw [supD, hvh, hdh]; simp_all)
    ·
     skip
     try simp only [decide_eq_true_eq, decide_eq_false_iff_not, Bool.not_eq_true', Bool.not_eq_false', Bool.not_eq_eq_eq_not, Bool.not_true, Bool.not_false] at h32
     refine cw_skip ?_
     refine pq_then ?_
     refine cw_seq ?_
     refine cw_seq ?_
     refine cw_region ?_
     refine ol_pure rfl (op_assign rfl) ?_
     refine ol_nil ?_
     refine pq_then ?_
     refine cw_block ?_
     have hbase : valI m r.head = 1 ∧ hd.getD r.head.toNat false = false ∧ hasB m r.pos 0 = false ∧ hasB m r.neg 2 = false := by rw [hvh, hdh]; simp_all
     refine cw_loop (fun e w n => ∃ k : Nat, e = [(0, .slice oM m.length cM), (1, .slice oD hd.length cD), (5, .pointer (some ⟨b5, 0, none⟩)), (7, .int .i64 (k : Nat))] ∧ k ≤ r.pos.length ∧ n = r.pos.length - k ∧ (r.pos.take k).any (fun p => decide (valI m p = 1) && !hd.getD p.toNat false) = false ∧ SS G w0 G [.blk b5 30 [.int .i64 r.head, .slice op r.pos.length cp, .slice oq r.neg.length cq]] w) _ _ (by exact ⟨0, rfl, Nat.zero_le _, rfl, rfl, hS⟩) ((Sub.cons rfl (Sub.cons rfl (Sub.cons rfl (Sub.cons rfl Sub.nil))))) ?_
     clear hS
     rintro e w n ⟨k, rfl, hk, rfl, hpa, hS⟩
     refine cw_seq ?_
     refine cw_seq ?_
     refine cw_region ?_
     refine ol_pure rfl (op_move rfl) ?_
     refine ol_pure rfl (op_fieldAddr fld_30_1 rfl) ?_
     refine ol_load rfl (op_load1 one_28 rfl (fun w hw => (hw.bcell (i := 0) rfl).trans rfl)) hS ?_
     refine ol_pure rfl (op_len sl_28 rfl rfl) ?_
     refine ol_pure rfl (op_lss rfl rfl) ?_
     refine ol_nil ?_
     refine pq_then ?_
     refine cw_cond rfl (fun h37 => ?_) (fun h37 => ?_)
     ·
      skip
      try simp only [decide_eq_true_eq, decide_eq_false_iff_not, Bool.not_eq_true', Bool.not_eq_false', Bool.not_eq_eq_eq_not, Bool.not_true, Bool.not_false] at h37
      have hlk : k < r.pos.length := by omega
      obtain ⟨hok, hck, hbk⟩ := hp.int hlk
      have hrk := hr.2.1 _ (List.getElem_mem hlk)
      obtain ⟨xk, hxk⟩ := Int.eq_ofNat_of_zero_le hrk.1
      have hnk : xk < m.length := by omega
      rw [hxk] at hck
      obtain ⟨hoMk, hcMk, _⟩ := h3.int hnk
      have hvk : valI m r.pos[k] = m[xk] := by rw [hxk]; exact val_at' hnk
      obtain ⟨hoDk, hcDk⟩ := h4.bool (show xk < hd.length by omega)
      have hdk : hd.getD r.pos[k].toNat false = hd[xk] := by rw [hxk]; simp [hlen, hnk]
      refine cw_skip ?_
      refine pq_then ?_
      refine cw_seq ?_
      refine cw_block ?_
      refine cw_seq ?_
      refine cw_region ?_
      refine ol_pure rfl (op_move rfl) ?_
      refine ol_pure rfl (op_fieldAddr fld_30_1 rfl) ?_
      refine ol_load rfl (op_load1 one_28 rfl (fun w hw => (hw.bcell (i := 0) rfl).trans rfl)) hS ?_
      refine ol_pure rfl (op_move rfl) ?_
      refine ol_pure rfl (op_indexN sl_28 rfl rfl (by omega) (by assumption)) ?_
      refine ol_load rfl (op_load1 one_3 rfl (fun w hw => hw.gcell hck)) hS ?_
      refine ol_pure rfl (op_indexN sl_28 rfl rfl (by omega) hoMk) ?_
      refine ol_load rfl (op_load1 one_3 rfl (fun w hw => hw.gcell hcMk)) hS ?_
      refine ol_pure rfl (op_eql rfl rfl) ?_
      refine ol_pure rfl (op_move rfl) ?_
      refine ol_split (fun h49 => ?_) (fun h49 => ?_)
      ·
       skip
       try simp only [decide_eq_true_eq, decide_eq_false_iff_not, Bool.not_eq_true', Bool.not_eq_false', Bool.not_eq_eq_eq_not, Bool.not_true, Bool.not_false] at h49
       refine ol_guard_pure rfl rfl rfl (op_move rfl) ?_
       refine ol_guard_pure rfl rfl rfl (op_fieldAddr fld_30_1 rfl) ?_
       refine ol_guard_load rfl rfl rfl (op_load1 one_28 rfl (fun w hw => (hw.bcell (i := 0) rfl).trans rfl)) hS ?_
       refine ol_guard_pure rfl rfl rfl (op_move rfl) ?_
       refine ol_guard_pure rfl rfl rfl (op_indexN sl_28 rfl rfl (by omega) (by assumption)) ?_
       refine ol_guard_load rfl rfl rfl (op_load1 one_3 rfl (fun w hw => hw.gcell hck)) hS ?_
       refine ol_guard_pure rfl rfl rfl (op_indexN sl_49 rfl rfl (by omega) hoDk) ?_
       refine ol_guard_load rfl rfl rfl (op_load1 one_4 rfl (fun w hw => hw.gcell hcDk)) hS ?_
       refine ol_guard_pure rfl rfl rfl (op_not rfl) ?_
       refine ol_pure rfl (op_pick_t rfl rfl) ?_
       refine ol_nil ?_
       refine pq_then ?_
       refine cw_cond rfl (fun h59 => ?_) (fun h59 => ?_)
       ·
        skip
        try simp only [decide_eq_true_eq, decide_eq_false_iff_not, Bool.not_eq_true', Bool.not_eq_false', Bool.not_eq_eq_eq_not, Bool.not_true, Bool.not_false] at h59
        refine cw_seq ?_
        refine cw_region ?_
        refine ol_pure rfl (op_assign rfl) ?_
        refine ol_nil ?_
        refine pq_then ?_
        refine cw_ret ?_
        refine pq_in_ret ?_
        refine pq_ret ?_
        refine pq_ret ?_
        refine pq_in_ret ?_
        refine pq_ret ?_
        refine ret1 rfl rfl ?_
        exact hS.sc_b (by rw [supD, Pl.any_true_at (fun p => decide (valI m p = 1) && !hd.getD p.toNat false) _ _ hlk (by rw [hvk, hdk]; simp_all)]; simp)
       ·
        skip
        try simp only [decide_eq_true_eq, decide_eq_false_iff_not, Bool.not_eq_true', Bool.not_eq_false', Bool.not_eq_eq_eq_not, Bool.not_true, Bool.not_false] at h59
        refine cw_skip ?_
        refine pq_in_normal ?_
        refine pq_then ?_
        refine cw_region ?_
        refine ol_pure rfl (op_move rfl) ?_
        refine ol_pure rfl (op_add rfl rfl (by omega) (by omega)) ?_
        refine ol_pure rfl (op_assign rfl) ?_
        refine ol_nil ?_
        refine pq_loop _ _ (by exact ⟨k + 1, rfl, by omega, rfl, by rw [Pl.any_take_succ (fun p => decide (valI m p = 1) && !hd.getD p.toNat false) _ _ hlk, hpa, hvk, hdk]; simp_all, hS⟩) ((Sub.cons rfl (Sub.cons rfl (Sub.cons rfl (Sub.cons rfl Sub.nil))))) (by omega)
      ·
       skip
       try simp only [decide_eq_true_eq, decide_eq_false_iff_not, Bool.not_eq_true', Bool.not_eq_false', Bool.not_eq_eq_eq_not, Bool.not_true, Bool.not_false] at h49
       refine ol_guard_no rfl rfl rfl rfl ?_
       refine ol_guard_no rfl rfl rfl rfl ?_
       refine ol_guard_no rfl rfl rfl rfl ?_
       refine ol_guard_no rfl rfl rfl rfl ?_
       refine ol_guard_no rfl rfl rfl rfl ?_
       refine ol_guard_no rfl rfl rfl rfl ?_
       refine ol_guard_no rfl rfl rfl rfl ?_
       refine ol_guard_no rfl rfl rfl rfl ?_
       refine ol_guard_no rfl rfl rfl rfl ?_
       refine ol_pure rfl (op_pick_f rfl rfl) ?_
       refine ol_nil ?_
       refine pq_then ?_
       refine cw_cond_f rfl ?_
       refine cw_skip ?_
       refine pq_in_normal ?_
       refine pq_then ?_
       refine cw_region ?_
       refine ol_pure rfl (op_move rfl) ?_
       refine ol_pure rfl (op_add rfl rfl (by omega) (by omega)) ?_
       refine ol_pure rfl (op_assign rfl) ?_
       refine ol_nil ?_
       refine pq_loop _ _ (by exact ⟨k + 1, rfl, by omega, rfl, by rw [Pl.any_take_succ (fun p => decide (valI m p = 1) && !hd.getD p.toNat false) _ _ hlk, hpa, hvk, hdk]; simp_all, hS⟩) ((Sub.cons rfl (Sub.cons rfl (Sub.cons rfl (Sub.cons rfl Sub.nil))))) (by omega)
     ·
      skip
      try simp only [decide_eq_true_eq, decide_eq_false_iff_not, Bool.not_eq_true', Bool.not_eq_false', Bool.not_eq_eq_eq_not, Bool.not_true, Bool.not_false] at h37
      refine cw_exit ?_
      refine pq_exit ?_
      refine pq_exit ?_
      refine pq_in_exit ?_
      refine pq_then ?_
      refine cw_seq ?_
      refine cw_region ?_
      refine ol_pure rfl (op_assign rfl) ?_
      refine ol_nil ?_
      refine pq_then ?_
      refine cw_ret ?_
      refine ret1 rfl rfl ?_
      exact hS.sc_b (by rw [supD, Pl.any_of_take (fun p => decide (valI m p = 1) && !hd.getD p.toNat false) _ _ (by omega) hpa, hbase.2.1, hbase.2.2.1, hbase.2.2.2, hbase.1]; rfl)
set_option maxRecDepth 100000 in
set_option maxHeartbeats 1000000 in

theorem R21_Tell_c (G : GH) (w0 : World) (hG : Holds G w0) (vm : Value) (m : List Int) (h3 : RSl 1 EInt G vm m) (s : Step) (u : Value) (h4 : RSl 1 EInt G u s.atoms) (hsb : -9223372036854775808 ≤ s.rule ∧ s.rule ≤ 9223372036854775807) (hmb : ∀ x ∈ m, 0 ≤ x ∧ x ≤ 2) (hmn : m.length ≤ 1000) (hin : ∀ a ∈ s.atoms, 0 ≤ a ∧ a < m.length) :
   Calls Try.prog 25 #[vm, .agg #[.int .i64 s.rule, u]] w0 (Rt noG w0 (fun G v => RSl 1 EInt G v (tellI m s))) := by
 obtain ⟨oM, cM, rfl, hlM, hmM⟩ := h3.elim
 have hMle := h3.le
 obtain ⟨oS, cS, rfl, hlS, hmS⟩ := h4.elim
 have hSle := h4.le
 refine enter Try.func25 rfl (N := 35) rfl (Nat.le_of_ble_eq_true rfl) ?_
 have hS := SS.init hG
 refine cw_seq ?_
 refine cw_region ?_
 refine ol_step rfl (op_box hS rfl rfl) ?_
 clear hS
 rintro _ w ⟨b3, rfl, hS⟩
 refine ol_pure rfl (op_assign rfl) ?_
 refine ol_nil ?_
 refine pq_then ?_
 refine cw_seq ?_
 refine cw_region ?_
 refine ol_step rfl (op_buildSlice (el := 3) (is := []) (xs := []) (sz := 1) (cs := []) hS rfl rfl (fun w => by kernel_rfl) rfl (by decide)) ?_
 clear hS
 rintro _ w ⟨o5, rfl, hS⟩
 refine ol_pure rfl (op_move rfl) ?_
 refine ol_step rfl (op_append (j := 0) (m := m.length) (news := m.map (Value.int .i64)) hS sl_28 el_3 rfl rfl rfl rfl rfl (by simp) (by decide) (h3.newsI hS.hold) (ones_i m) (by omega) (by unfold maxLen; omega)) ?_
 clear hS
 rintro _ w ⟨o5n, c_o5n, rfl, hS⟩; (try simp only [List.nil_append, List.cons_append, List.set] at hS)
 refine ol_pure rfl (op_assign rfl) ?_
 refine ol_nil ?_
 refine pq_then ?_
 refine cw_seq ?_
 refine cw_seq ?_
 refine cw_region ?_
 refine ol_pure rfl (op_assign rfl) ?_
 refine ol_nil ?_
 refine pq_then ?_
 refine cw_block ?_
 rw [Nat.zero_add] at *
 refine cw_loop (fun e w n => ∃ k o5 c5, e = [(3, .pointer (some ⟨b3, 0, none⟩)), (5, .slice o5 m.length c5), (6, .int .i64 (k : Nat))] ∧ k ≤ s.atoms.length ∧ n = s.atoms.length - k ∧ SS G w0 G [.row o5 m.length c5 3 1 ((setAll m (s.atoms.take k) (if 0 ≤ s.rule then (2 : Int) else 0)).map (Value.int .i64)), .blk b3 37 [.int .i64 s.rule, .slice oS s.atoms.length cS]] w) _ _ (by exact ⟨0, o5n, c_o5n, rfl, Nat.zero_le _, rfl, hS⟩) ((Sub.cons rfl (Sub.cons rfl (Sub.cons rfl Sub.nil)))) ?_
 clear hS
 rintro e w n ⟨k, o5, c5, rfl, hk, rfl, hS⟩
 refine cw_seq ?_
 refine cw_seq ?_
 refine cw_region ?_
 refine ol_pure rfl (op_move rfl) ?_
 refine ol_pure rfl (op_fieldAddr fld_37_1 rfl) ?_
 refine ol_load rfl (op_load1 one_28 rfl (fun w hw => (hw.bcell (i := 1) rfl).trans rfl)) hS ?_
 refine ol_pure rfl (op_len sl_28 rfl rfl) ?_
 refine ol_pure rfl (op_lss rfl rfl) ?_
 refine ol_nil ?_
 refine pq_then ?_
 refine cw_cond rfl (fun h14 => ?_) (fun h14 => ?_)
 ·
  skip
  try simp only [decide_eq_true_eq, decide_eq_false_iff_not, Bool.not_eq_true', Bool.not_eq_false', Bool.not_eq_eq_eq_not, Bool.not_true, Bool.not_false] at h14
  have hlt : k < s.atoms.length := by omega
  obtain ⟨hoS, hcS, hbS⟩ := h4.int hlt
  obtain ⟨j, hj⟩ := Int.eq_ofNat_of_zero_le (hin _ (List.getElem_mem hlt)).1
  have hjm : j < m.length := by have := (hin _ (List.getElem_mem hlt)).2; omega
  have hcm2 : ((setAll m (s.atoms.take k) (if 0 ≤ s.rule then (2 : Int) else 0)).map (Value.int .i64))[j * 1]? = some (.int .i64 ((setAll m (s.atoms.take k) (if 0 ≤ s.rule then (2 : Int) else 0)).getD j 0)) := by
    have : j < (setAll m (s.atoms.take k) (if 0 ≤ s.rule then (2 : Int) else 0)).length := by rw [setAll_len]; exact hjm
    rw [Nat.mul_one, List.getElem?_map, List.getElem?_eq_getElem this, List.getD_eq_getElem?_getD, List.getElem?_eq_getElem this]
    rfl
  have hoo := (hS.news (j := 0) rfl (j * 1) _ hcm2).1
  refine cw_skip ?_
  refine pq_then ?_
  refine cw_seq ?_
  refine cw_block ?_
  refine cw_seq ?_
  refine cw_region ?_
  refine ol_pure rfl (op_fieldAddr fld_37_0 rfl) ?_
  refine ol_load rfl (op_load1 one_3 rfl (fun w hw => (hw.bcell (i := 1) rfl).trans rfl)) hS ?_
  refine ol_pure rfl (op_geq rfl rfl) ?_
  refine ol_nil ?_
  refine pq_then ?_
  refine cw_cond rfl (fun h19 => ?_) (fun h19 => ?_)
  ·
   skip
   try simp only [decide_eq_true_eq, decide_eq_false_iff_not, Bool.not_eq_true', Bool.not_eq_false', Bool.not_eq_eq_eq_not, Bool.not_true, Bool.not_false] at h19
   refine cw_region ?_
   refine ol_pure rfl (op_move rfl) ?_
   refine ol_pure rfl (op_fieldAddr fld_37_1 rfl) ?_
   refine ol_load rfl (op_load1 one_28 rfl (fun w hw => (hw.bcell (i := 1) rfl).trans rfl)) hS ?_
   refine ol_pure rfl (op_move rfl) ?_
   refine ol_pure rfl (op_indexN sl_28 rfl rfl (by omega) (by assumption)) ?_
   refine ol_load rfl (op_load1 one_3 rfl (fun w hw => by first | exact hw.gcell (by assumption) | exact hw.gcell0 (by assumption))) hS ?_
   refine ol_pure rfl (op_val (op_indexAddr sl_28 rfl rfl (by omega) (by omega) hoo) (v' := .pointer (some (elA o5 (j * 1)))) (by rw [hj]; rfl)) ?_
   refine ol_step0  (op_storeR (j := 0) (k := j * 1) hS sz_3 rfl rfl rfl rfl (by simp [setAll_len]; omega)) ?_
   clear hS
   rintro _ w hS; (try simp only [List.nil_append, List.cons_append, List.set] at hS)
   refine ol_nil ?_
   refine pq_in_normal ?_
   refine pq_then ?_
   refine cw_region ?_
   refine ol_pure rfl (op_move rfl) ?_
   refine ol_pure rfl (op_add rfl rfl (by omega) (by omega)) ?_
   refine ol_pure rfl (op_assign rfl) ?_
   refine ol_nil ?_
   refine pq_loop _ _ (by exact ⟨k + 1, o5, c5, rfl, by omega, rfl, by rw [setAll_snoc _ _ _ hlt, List.map_set, hj, if_pos h19]; rw [if_pos h19] at hS; simpa using hS⟩) ((Sub.cons rfl (Sub.cons rfl (Sub.cons rfl Sub.nil)))) (by omega)
  ·
   skip
   try simp only [decide_eq_true_eq, decide_eq_false_iff_not, Bool.not_eq_true', Bool.not_eq_false', Bool.not_eq_eq_eq_not, Bool.not_true, Bool.not_false] at h19
   refine cw_region ?_
   refine ol_pure rfl (op_move rfl) ?_
   refine ol_pure rfl (op_fieldAddr fld_37_1 rfl) ?_
   refine ol_load rfl (op_load1 one_28 rfl (fun w hw => (hw.bcell (i := 1) rfl).trans rfl)) hS ?_
   refine ol_pure rfl (op_move rfl) ?_
   refine ol_pure rfl (op_indexN sl_28 rfl rfl (by omega) (by assumption)) ?_
   refine ol_load rfl (op_load1 one_3 rfl (fun w hw => by first | exact hw.gcell (by assumption) | exact hw.gcell0 (by assumption))) hS ?_
   refine ol_pure rfl (op_val (op_indexAddr sl_28 rfl rfl (by omega) (by omega) hoo) (v' := .pointer (some (elA o5 (j * 1)))) (by rw [hj]; rfl)) ?_
   refine ol_step0  (op_storeR (j := 0) (k := j * 1) hS sz_3 rfl rfl rfl rfl (by simp [setAll_len]; omega)) ?_
   clear hS
   rintro _ w hS; (try simp only [List.nil_append, List.cons_append, List.set] at hS)
   refine ol_nil ?_
   refine pq_in_normal ?_
   refine pq_then ?_
   refine cw_region ?_
   refine ol_pure rfl (op_move rfl) ?_
   refine ol_pure rfl (op_add rfl rfl (by omega) (by omega)) ?_
   refine ol_pure rfl (op_assign rfl) ?_
   refine ol_nil ?_
   refine pq_loop _ _ (by exact ⟨k + 1, o5, c5, rfl, by omega, rfl, by rw [setAll_snoc _ _ _ hlt, List.map_set, hj, if_neg (by omega)]; rw [if_neg (by omega)] at hS; simpa using hS⟩) ((Sub.cons rfl (Sub.cons rfl (Sub.cons rfl Sub.nil)))) (by omega)
 ·
  skip
  try simp only [decide_eq_true_eq, decide_eq_false_iff_not, Bool.not_eq_true', Bool.not_eq_false', Bool.not_eq_eq_eq_not, Bool.not_true, Bool.not_false] at h14
  refine cw_exit ?_
  refine pq_exit ?_
  refine pq_exit ?_
  refine pq_in_exit ?_
  refine pq_then ?_
  refine cw_seq ?_
  refine cw_region ?_
  refine ol_pure rfl (op_move rfl) ?_
  refine ol_pure rfl (op_assign rfl) ?_
  refine ol_nil ?_
  refine pq_then ?_
  refine cw_ret ?_
  refine ret1 rfl rfl ?_
  rw [List.take_of_length_le (show s.atoms.length ≤ k by omega)] at hS
  exact hS.rt_row (zs := tellI m s) [] (by decide) (Rows.ints (l := tellI m s) fun x hx => by have := tellI_mem (s := s) hmb x hx; omega) EInt.mono (tellI_len m s).symm
set_option maxRecDepth 100000 in
set_option maxHeartbeats 1000000 in

theorem R21_Known_c (G : GH) (w0 : World) (hG : Holds G w0) {α : Type} {E : ER α} (hE : EMono E) (va vr : Value) (atoms : List α) (rs : List Rule) (h1 : RSl 1 E G va atoms) (h2 : RSl 3 ERule G vr rs) (hP : PrOk atoms.length rs) (vs vh : Value) (l : List Step) (h5 : RSl 2 EStep G vs l) (hvh : ∃ o n c, vh = .slice o n c)  :
   Calls Try.prog 20 #[.agg #[va, vr], .agg #[vs, vh]] w0 (Rt noG w0 (fun G v => RSl 1 EInt G v (knownI atoms.length l))) := by
 obtain ⟨oA, cA, rfl, hlA, hmA⟩ := h1.elim
 obtain ⟨oR, cR, rfl, hlR, hmR⟩ := h2.elim
 have hle1 := h1.le
 have hle2 := h2.le
 have hPn := hP.n_le
 have hPm := hP.m_le
 obtain ⟨oP, cP, rfl, hlP, hmP⟩ := h5.elim
 have hPle := h5.le
 obtain ⟨oh, nh, ch, rfl⟩ := hvh
 refine enter Try.func20 rfl (N := 35) rfl (Nat.le_of_ble_eq_true rfl) ?_
 have hS := SS.init hG
 refine cw_seq ?_
 refine cw_region ?_
 refine ol_step rfl (op_box hS rfl rfl) ?_
 clear hS
 rintro _ w ⟨b2, rfl, hS⟩
 refine ol_step rfl (op_box hS rfl rfl) ?_
 clear hS
 rintro _ w ⟨b3, rfl, hS⟩
 refine ol_pure rfl (op_assign rfl) ?_
 refine ol_nil ?_
 refine pq_then ?_
 refine cw_seq ?_
 refine cw_region ?_
 refine ol_load rfl (op_loadN agg_26 rfl (by rfl) (fun w hw k u hk => (hw.bcell (i := 1) rfl).trans hk)) hS ?_
 refine ol_step rfl (op_call cf_23 rfl (R21_Own_c hS _ _ atoms h1 ⟨_, _, _, rfl⟩ (by omega))) ?_
 clear hS
 rintro _ w ⟨o5, c5, rfl, hS⟩
 refine ol_pure rfl (op_assign rfl) ?_
 refine ol_nil ?_
 refine pq_then ?_
 refine cw_seq ?_
 refine cw_seq ?_
 refine cw_region ?_
 refine ol_pure rfl (op_assign rfl) ?_
 refine ol_nil ?_
 refine pq_then ?_
 refine cw_block ?_
 refine cw_loop (fun e w n => ∃ k : Nat, e = [(3, .pointer (some ⟨b3, 0, none⟩)), (5, .slice o5 atoms.length c5), (6, .int .i64 (k : Nat))] ∧ k ≤ atoms.length ∧ n = atoms.length - k ∧ SS G w0 G [.row o5 atoms.length c5 3 1 (((knownI atoms.length l).take k).map (Value.int .i64) ++ List.replicate (atoms.length - k) (.int .i64 1)), .blk b3 34 [.slice oP l.length cP, .slice oh nh ch], .blk b2 26 [.slice oA atoms.length cA, .slice oR rs.length cR]] w) _ _ (by exact ⟨0, rfl, Nat.zero_le _, rfl, by simpa [startI] using hS⟩) ((Sub.cons rfl (Sub.cons rfl (Sub.cons rfl Sub.nil)))) ?_
 clear hS
 rintro e w n ⟨k, rfl, hk, rfl, hS⟩
 refine cw_seq ?_
 refine cw_seq ?_
 refine cw_region ?_
 refine ol_pure rfl (op_move rfl) ?_
 refine ol_pure rfl (op_move rfl) ?_
 refine ol_pure rfl (op_len sl_28 rfl rfl) ?_
 refine ol_pure rfl (op_lss rfl rfl) ?_
 refine ol_nil ?_
 refine pq_then ?_
 refine cw_cond rfl (fun h13 => ?_) (fun h13 => ?_)
 ·
  skip
  try simp only [decide_eq_true_eq, decide_eq_false_iff_not, Bool.not_eq_true', Bool.not_eq_false', Bool.not_eq_eq_eq_not, Bool.not_true, Bool.not_false] at h13
  have hlt : k < atoms.length := by omega
  have hka := known_at (l := l) hlt
  refine cw_skip ?_
  refine pq_then ?_
  refine cw_seq ?_
  refine cw_block ?_
  refine cw_seq ?_
  refine cw_region ?_
  refine ol_load rfl (op_loadN agg_34 rfl (by rfl) (fun w hw k u hk => (hw.bcell (i := 1) rfl).trans hk)) hS ?_
  refine ol_pure rfl (op_move rfl) ?_
  refine ol_step rfl (op_call_sc hS cf_29 rfl (R21_By_c G _ hS.hold _ _ l h5 ⟨_, _, _, rfl⟩ (k : Int))) ?_
  clear hS
  rintro _ w ⟨rfl, hS⟩
  refine ol_pure rfl (op_assign rfl) ?_
  refine ol_nil ?_
  refine pq_then ?_
  refine cw_seq ?_
  refine cw_region ?_
  refine ol_pure rfl (op_move rfl) ?_
  refine ol_pure rfl (op_geq rfl rfl) ?_
  refine ol_nil ?_
  refine pq_then ?_
  refine cw_cond rfl (fun h20 => ?_) (fun h20 => ?_)
  ·
   skip
   try simp only [decide_eq_true_eq, decide_eq_false_iff_not, Bool.not_eq_true', Bool.not_eq_false', Bool.not_eq_eq_eq_not, Bool.not_true, Bool.not_false] at h20
   obtain ⟨i, hi⟩ := Int.eq_ofNat_of_zero_le h20
   obtain ⟨hil, _, _⟩ := findP_spec (show findP (fun s : Step => decide ((k : Int) ∈ s.atoms)) l = i from hi)
   obtain ⟨hoP, _, _, ⟨vk, rfl, hvk, hrk⟩, hcells⟩ := h5.el hil
   have hoo := (hS.news (j := 0) rfl (k * 1) _ (List.getElem?_eq_getElem (by simp [known_len]; omega))).1
   rw [if_pos h20, hi, show ((i : Nat) : Int).toNat = i from rfl, List.getElem?_eq_getElem hil] at hka
   rw [hi]
   refine cw_seq ?_
   refine cw_region ?_
   refine ol_pure rfl (op_move rfl) ?_
   refine ol_pure rfl (op_move rfl) ?_
   refine ol_pure rfl (op_indexN sl_28 rfl rfl (by omega) hoo) ?_
   refine ol_step0  (op_storeR (j := 0) (k := k * 1) hS sz_3 rfl rfl rfl rfl (by simp [known_len]; omega)) ?_
   clear hS
   rintro _ w hS; (try simp only [List.nil_append, List.cons_append, List.set] at hS)
   refine ol_nil ?_
   refine pq_then ?_
   refine cw_seq ?_
   refine cw_region ?_
   refine ol_pure rfl (op_fieldAddr fld_34_0 rfl) ?_
   refine ol_load rfl (op_load1 one_32 rfl (fun w hw => (hw.bcell (i := 1) rfl).trans rfl)) hS ?_
   refine ol_pure rfl (op_move rfl) ?_
   refine ol_pure rfl (op_indexN sl_32 rfl rfl (by omega) hoP) ?_
   refine ol_pure rfl (op_fieldAddr fld_37_0 rfl) ?_
   refine ol_load rfl (op_load1 one_3 rfl (fun w hw => hw.gcell0 (hcells 0 _ rfl))) hS ?_
   refine ol_pure rfl (op_geq rfl rfl) ?_
   refine ol_nil ?_
   refine pq_then ?_
   refine cw_cond rfl (fun h30 => ?_) (fun h30 => ?_)
   ·
    skip
    try simp only [decide_eq_true_eq, decide_eq_false_iff_not, Bool.not_eq_true', Bool.not_eq_false', Bool.not_eq_eq_eq_not, Bool.not_true, Bool.not_false] at h30
    refine cw_region ?_
    refine ol_pure rfl (op_move rfl) ?_
    refine ol_pure rfl (op_move rfl) ?_
    refine ol_pure rfl (op_indexN sl_28 rfl rfl (by omega) hoo) ?_
    refine ol_step0  (op_storeR (j := 0) (k := k * 1) hS sz_3 rfl rfl rfl rfl (by simp [known_len]; omega)) ?_
    clear hS
    rintro _ w hS; (try simp only [List.nil_append, List.cons_append, List.set] at hS)
    refine ol_nil ?_
    refine pq_in_normal ?_
    refine pq_then ?_
    refine cw_region ?_
    refine ol_pure rfl (op_move rfl) ?_
    refine ol_pure rfl (op_add rfl rfl (by omega) (by omega)) ?_
    refine ol_pure rfl (op_assign rfl) ?_
    refine ol_nil ?_
    refine pq_loop _ _ (by exact ⟨k + 1, rfl, by omega, rfl, by rw [List.set_set, fill_set (Value.int .i64) (.int .i64 1) (knownI atoms.length l) atoms.length k 2 hlt (by rw [hka]; simp [tellOf, h30])] at hS; exact hS⟩) ((Sub.cons rfl (Sub.cons rfl (Sub.cons rfl Sub.nil)))) (by omega)
   ·
    skip
    try simp only [decide_eq_true_eq, decide_eq_false_iff_not, Bool.not_eq_true', Bool.not_eq_false', Bool.not_eq_eq_eq_not, Bool.not_true, Bool.not_false] at h30
    refine cw_skip ?_
    refine pq_in_normal ?_
    refine pq_then ?_
    refine cw_region ?_
    refine ol_pure rfl (op_move rfl) ?_
    refine ol_pure rfl (op_add rfl rfl (by omega) (by omega)) ?_
    refine ol_pure rfl (op_assign rfl) ?_
    refine ol_nil ?_
    refine pq_loop _ _ (by exact ⟨k + 1, rfl, by omega, rfl, by rw [fill_set (Value.int .i64) (.int .i64 1) (knownI atoms.length l) atoms.length k 0 hlt (by rw [hka]; simp [tellOf]; omega)] at hS; exact hS⟩) ((Sub.cons rfl (Sub.cons rfl (Sub.cons rfl Sub.nil)))) (by omega)
  ·
   skip
   try simp only [decide_eq_true_eq, decide_eq_false_iff_not, Bool.not_eq_true', Bool.not_eq_false', Bool.not_eq_eq_eq_not, Bool.not_true, Bool.not_false] at h20
   rw [if_neg (by omega)] at hka
   refine cw_skip ?_
   refine pq_in_normal ?_
   refine pq_then ?_
   refine cw_region ?_
   refine ol_pure rfl (op_move rfl) ?_
   refine ol_pure rfl (op_add rfl rfl (by omega) (by omega)) ?_
   refine ol_pure rfl (op_assign rfl) ?_
   refine ol_nil ?_
   refine pq_loop _ _ (by exact ⟨k + 1, rfl, by omega, rfl, by rw [fill_keep (Value.int .i64) (.int .i64 1) (knownI atoms.length l) atoms.length k 1 hlt hka rfl] at hS; exact hS⟩) ((Sub.cons rfl (Sub.cons rfl (Sub.cons rfl Sub.nil)))) (by omega)
 ·
  skip
  try simp only [decide_eq_true_eq, decide_eq_false_iff_not, Bool.not_eq_true', Bool.not_eq_false', Bool.not_eq_eq_eq_not, Bool.not_true, Bool.not_false] at h13
  refine cw_exit ?_
  refine pq_exit ?_
  refine pq_exit ?_
  refine pq_in_exit ?_
  refine pq_then ?_
  refine cw_seq ?_
  refine cw_region ?_
  refine ol_pure rfl (op_move rfl) ?_
  refine ol_pure rfl (op_assign rfl) ?_
  refine ol_nil ?_
  refine pq_then ?_
  refine cw_ret ?_
  refine ret1 rfl rfl ?_
  have hi0 : k = (knownI atoms.length l).length := by rw [known_len]; omega
  have hml : atoms.length = (knownI atoms.length l).length := by rw [known_len]
  rw [hi0, Nat.sub_eq_zero_of_le (by omega), List.replicate_zero, List.append_nil, List.take_length] at hS
  exact hS.rt_row [] (by decide) (Rows.ints (fun x hx => by have := known_range x hx; omega)) EInt.mono hml
set_option maxRecDepth 100000 in
set_option maxHeartbeats 1000000 in

theorem R21_Same_c (G : GH) (w0 : World) (hG : Holds G w0) (vs1 vh1 : Value) (l1 : List Step) (hs1 : List Int) (h51 : RSl 2 EStep G vs1 l1) (h61 : RSl 1 EInt G vh1 hs1) (vs2 vh2 : Value) (l2 : List Step) (hs2 : List Int) (h52 : RSl 2 EStep G vs2 l2) (h62 : RSl 1 EInt G vh2 hs2)  :
   Calls Try.prog 17 #[.agg #[vs1, vh1], .agg #[vs2, vh2]] w0 (Sc w0 (.bool (decide (l1 = l2 ∧ hs1 = hs2)))) := by
 obtain ⟨oP, cP, rfl, hlP, hmP⟩ := h51.elim
 obtain ⟨oQ, cQ, rfl, hlQ, hmQ⟩ := h52.elim
 have hPle := h51.le
 have hQle := h52.le
 refine enter Try.func17 rfl (N := 57) rfl (Nat.le_of_ble_eq_true rfl) ?_
 have hS := SS.init hG
 refine cw_seq ?_
 refine cw_region ?_
 refine ol_step rfl (op_box hS rfl rfl) ?_
 clear hS
 rintro _ w ⟨b2, rfl, hS⟩
 refine ol_step rfl (op_box hS rfl rfl) ?_
 clear hS
 rintro _ w ⟨b3, rfl, hS⟩
 refine ol_pure rfl (op_assign rfl) ?_
 refine ol_nil ?_
 refine pq_then ?_
 refine cw_seq ?_
 refine cw_seq ?_
 refine cw_region ?_
 refine ol_pure rfl (op_fieldAddr fld_34_0 rfl) ?_
 refine ol_load rfl (op_load1 one_32 rfl (fun w hw => (hw.bcell (i := 1) rfl).trans rfl)) hS ?_
 refine ol_pure rfl (op_len sl_32 rfl rfl) ?_
 refine ol_pure rfl (op_fieldAddr fld_34_0 rfl) ?_
 refine ol_load rfl (op_load1 one_32 rfl (fun w hw => (hw.bcell (i := 0) rfl).trans rfl)) hS ?_
 refine ol_pure rfl (op_len sl_32 rfl rfl) ?_
 refine ol_pure rfl (op_neq rfl rfl) ?_
 refine ol_pure rfl (op_move rfl) ?_
 refine ol_split (fun h13 => ?_) (fun h13 => ?_)
 ·
  skip
  try simp only [decide_eq_true_eq, decide_eq_false_iff_not, Bool.not_eq_true', Bool.not_eq_false', Bool.not_eq_eq_eq_not, Bool.not_true, Bool.not_false] at h13
  refine ol_guard_no rfl rfl rfl rfl ?_
  refine ol_guard_no rfl rfl rfl rfl ?_
  refine ol_guard_no rfl rfl rfl rfl ?_
  refine ol_guard_no rfl rfl rfl rfl ?_
  refine ol_guard_no rfl rfl rfl rfl ?_
  refine ol_guard_no rfl rfl rfl rfl ?_
  refine ol_pure rfl (op_pick_t rfl rfl) ?_
  refine ol_nil ?_
  refine pq_then ?_
  refine cw_cond_t rfl ?_
  refine cw_seq ?_
  refine cw_region ?_
  refine ol_pure rfl (op_assign rfl) ?_
  refine ol_nil ?_
  refine pq_then ?_
  refine cw_ret ?_
  refine pq_ret ?_
  refine ret1 rfl rfl ?_
  exact hS.sc_b (by symm; rw [decide_eq_false_iff_not]; rintro ⟨rfl, rfl⟩; simp_all)
 ·
  skip
  try simp only [decide_eq_true_eq, decide_eq_false_iff_not, Bool.not_eq_true', Bool.not_eq_false', Bool.not_eq_eq_eq_not, Bool.not_true, Bool.not_false] at h13
  refine ol_guard_pure rfl rfl rfl (op_fieldAddr fld_34_1 rfl) ?_
  refine ol_guard_load rfl rfl rfl (op_load1 one_28 rfl (fun w hw => (hw.bcell (i := 1) rfl).trans rfl)) hS ?_
  refine ol_guard_pure rfl rfl rfl (op_fieldAddr fld_34_1 rfl) ?_
  refine ol_guard_load rfl rfl rfl (op_load1 one_28 rfl (fun w hw => (hw.bcell (i := 0) rfl).trans rfl)) hS ?_
  refine ol_guard_step rfl rfl rfl (op_call_sc hS cf_18 rfl (R21_Ints_c G _ hS.hold _ _ hs1 hs2 h61 h62)) ?_
  clear hS
  rintro _ w ⟨rfl, hS⟩
  refine ol_guard_pure rfl rfl rfl (op_not rfl) ?_
  refine ol_pure rfl (op_pick_f rfl rfl) ?_
  refine ol_nil ?_
  refine pq_then ?_
  refine cw_cond rfl (fun h20 => ?_) (fun h20 => ?_)
  ·
   skip
   try simp only [decide_eq_true_eq, decide_eq_false_iff_not, Bool.not_eq_true', Bool.not_eq_false', Bool.not_eq_eq_eq_not, Bool.not_true, Bool.not_false] at h20
   refine cw_seq ?_
   refine cw_region ?_
   refine ol_pure rfl (op_assign rfl) ?_
   refine ol_nil ?_
   refine pq_then ?_
   refine cw_ret ?_
   refine pq_ret ?_
   refine ret1 rfl rfl ?_
   exact hS.sc_b (by symm; rw [decide_eq_false_iff_not]; rintro ⟨rfl, rfl⟩; simp_all)
  ·
   skip
   try simp only [decide_eq_true_eq, decide_eq_false_iff_not, Bool.not_eq_true', Bool.not_eq_false', Bool.not_eq_eq_eq_not, Bool.not_true, Bool.not_false] at h20
   have hll : l1.length = l2.length := by omega
   have hhh : hs1 = hs2 := by simp_all
   refine cw_skip ?_
   refine pq_then ?_
   refine cw_seq ?_
   refine cw_seq ?_
   refine cw_region ?_
   refine ol_pure rfl (op_assign rfl) ?_
   refine ol_nil ?_
   refine pq_then ?_
   refine cw_block ?_
   refine cw_loop (fun e w n => ∃ k : Nat, e = [(2, .pointer (some ⟨b2, 0, none⟩)), (3, .pointer (some ⟨b3, 0, none⟩)), (5, .int .i64 (k : Nat))] ∧ k ≤ l1.length ∧ n = l1.length - k ∧ l1.take k = l2.take k ∧ SS G w0 G [.blk b3 34 [.slice oQ l2.length cQ, vh2], .blk b2 34 [.slice oP l1.length cP, vh1]] w) _ _ (by exact ⟨0, rfl, Nat.zero_le _, rfl, rfl, hS⟩) ((Sub.cons rfl (Sub.cons rfl (Sub.cons rfl Sub.nil)))) ?_
   clear hS
   rintro e w n ⟨k, rfl, hk, rfl, hp, hS⟩
   refine cw_seq ?_
   refine cw_seq ?_
   refine cw_region ?_
   refine ol_pure rfl (op_move rfl) ?_
   refine ol_pure rfl (op_fieldAddr fld_34_0 rfl) ?_
   refine ol_load rfl (op_load1 one_32 rfl (fun w hw => (hw.bcell (i := 1) rfl).trans rfl)) hS ?_
   refine ol_pure rfl (op_len sl_32 rfl rfl) ?_
   refine ol_pure rfl (op_lss rfl rfl) ?_
   refine ol_nil ?_
   refine pq_then ?_
   refine cw_cond rfl (fun h25 => ?_) (fun h25 => ?_)
   ·
    skip
    try simp only [decide_eq_true_eq, decide_eq_false_iff_not, Bool.not_eq_true', Bool.not_eq_false', Bool.not_eq_eq_eq_not, Bool.not_true, Bool.not_false] at h25
    have ha : k < l1.length := by omega
    have hb : k < l2.length := by omega
    obtain ⟨hoP, _, _, ⟨v1, rfl, hv1, hr1⟩, hcells1⟩ := h51.el ha
    obtain ⟨hoQ, _, _, ⟨v2, rfl, hv2, hr2⟩, hcells2⟩ := h52.el hb
    obtain ⟨o1, c1, rfl, _, _⟩ := hv1.elim
    obtain ⟨o2, c2, rfl, _, _⟩ := hv2.elim
    refine cw_skip ?_
    refine pq_then ?_
    refine cw_seq ?_
    refine cw_block ?_
    refine cw_seq ?_
    refine al_start' hS (hS.take 2) (by kernel_rfl) rfl (fun w hS hT => ?_)
    refine al_take (i := 0) rfl (by kernel_rfl) (by kernel_rfl) (by kernel_rfl) rfl (fun _ _ _ h => h) (op_fieldAddr fld_34_0 rfl) rfl ?_
    refine al_load (i := 1) rfl (by kernel_rfl) (by kernel_rfl) (by kernel_rfl) rfl (fun _ _ _ h => h) (by exact op_load1 one_32 rfl (fun w hw => (hw.bcell (i := 1) rfl).trans rfl)) rfl hT ?_
    refine al_take (i := 2) rfl (by kernel_rfl) (by kernel_rfl) (by kernel_rfl) rfl (fun _ _ _ h => h) (op_move rfl) rfl ?_
    refine al_take (i := 3) rfl (by kernel_rfl) (by kernel_rfl) (by kernel_rfl) rfl (fun _ _ _ h => h) (op_indexN sl_32 rfl rfl (by omega) hoP) rfl ?_
    refine al_take (i := 4) rfl (by kernel_rfl) (by kernel_rfl) (by kernel_rfl) rfl (fun _ _ _ h => h) (op_fieldAddr fld_37_0 rfl) rfl ?_
    refine al_load (i := 5) rfl (by kernel_rfl) (by kernel_rfl) (by kernel_rfl) rfl (fun _ _ _ h => h) (by exact op_load1 one_3 rfl (fun w hw => hw.gcell (hcells1 0 _ rfl))) rfl hT ?_
    refine al_take (i := 6) rfl (by kernel_rfl) (by kernel_rfl) (by kernel_rfl) rfl (fun _ _ _ h => h) (op_fieldAddr fld_34_0 rfl) rfl ?_
    refine al_load (i := 7) rfl (by kernel_rfl) (by kernel_rfl) (by kernel_rfl) rfl (fun _ _ _ h => h) (by exact op_load1 one_32 rfl (fun w hw => (hw.bcell (i := 0) rfl).trans rfl)) rfl hT ?_
    refine al_take (i := 8) rfl (by kernel_rfl) (by kernel_rfl) (by kernel_rfl) rfl (fun _ _ _ h => h) (op_move rfl) rfl ?_
    refine al_take (i := 9) rfl (by kernel_rfl) (by kernel_rfl) (by kernel_rfl) rfl (fun _ _ _ h => h) (op_indexN sl_32 rfl rfl (by omega) hoQ) rfl ?_
    refine al_take (i := 10) rfl (by kernel_rfl) (by kernel_rfl) (by kernel_rfl) rfl (fun _ _ _ h => h) (op_fieldAddr fld_37_0 rfl) rfl ?_
    refine al_load (i := 11) rfl (by kernel_rfl) (by kernel_rfl) (by kernel_rfl) rfl (fun _ _ _ h => h) (by exact op_load1 one_3 rfl (fun w hw => hw.gcell (hcells2 0 _ rfl))) rfl hT ?_
    refine al_take (i := 12) rfl (by kernel_rfl) (by kernel_rfl) (by kernel_rfl) rfl (fun _ _ _ h => h) (op_neq rfl rfl) rfl ?_
    refine al_take (i := 13) rfl (by kernel_rfl) (by kernel_rfl) (by kernel_rfl) rfl (fun _ _ _ h => h) (op_move rfl) rfl ?_
    refine al_split (fun h41 => ?_) (fun h41 => ?_)
    ·
     skip
     try simp only [decide_eq_true_eq, decide_eq_false_iff_not, Bool.not_eq_true', Bool.not_eq_false', Bool.not_eq_eq_eq_not, Bool.not_true, Bool.not_false] at h41
     refine al_gskip (i := 14) rfl (by kernel_rfl) (by kernel_rfl) (by kernel_rfl) rfl rfl rfl rfl (fun _ _ _ h => h) (fun _ => hT) ?_
     refine al_gskip (i := 15) rfl (by kernel_rfl) (by kernel_rfl) (by kernel_rfl) rfl rfl rfl rfl (fun _ _ _ h => h) (fun _ => hT) ?_
     refine al_gskip (i := 16) rfl (by kernel_rfl) (by kernel_rfl) (by kernel_rfl) rfl rfl rfl rfl (fun _ _ _ h => h) (fun _ => hT) ?_
     refine al_gskip (i := 17) rfl (by kernel_rfl) (by kernel_rfl) (by kernel_rfl) rfl rfl rfl rfl (fun _ _ _ h => h) (fun _ => hT) ?_
     refine al_gskip (i := 18) rfl (by kernel_rfl) (by kernel_rfl) (by kernel_rfl) rfl rfl rfl rfl (fun _ _ _ h => h) (fun _ => hT) ?_
     refine al_gskip (i := 19) rfl (by kernel_rfl) (by kernel_rfl) (by kernel_rfl) rfl rfl rfl rfl (fun _ _ _ h => h) (fun _ => hT) ?_
     refine al_gskip (i := 20) rfl (by kernel_rfl) (by kernel_rfl) (by kernel_rfl) rfl rfl rfl rfl (fun _ _ _ h => h) (fun _ => hT) ?_
     refine al_gskip (i := 21) rfl (by kernel_rfl) (by kernel_rfl) (by kernel_rfl) rfl rfl rfl rfl (fun _ _ _ h => h) (fun _ => hT) ?_
     refine al_gskip (i := 22) rfl (by kernel_rfl) (by kernel_rfl) (by kernel_rfl) rfl rfl rfl rfl (fun _ _ _ h => h) (fun _ => hT) ?_
     refine al_gskip (i := 23) rfl (by kernel_rfl) (by kernel_rfl) (by kernel_rfl) rfl rfl rfl rfl (fun _ _ _ h => h) (fun _ => hT) ?_
     refine al_gskip (i := 24) rfl (by kernel_rfl) (by kernel_rfl) (by kernel_rfl) rfl rfl rfl rfl (fun _ _ _ h => h) (fun _ => hT) ?_
     refine al_gskip (i := 25) rfl (by kernel_rfl) (by kernel_rfl) (by kernel_rfl) rfl rfl rfl rfl (fun _ _ _ h => h) (fun _ => hT) ?_
     refine al_gskip (i := 26) rfl (by kernel_rfl) (by kernel_rfl) (by kernel_rfl) rfl rfl rfl rfl (fun _ _ _ h => h) (fun _ => hT) ?_
     refine al_gskip (i := 27) rfl (by kernel_rfl) (by kernel_rfl) (by kernel_rfl) rfl rfl rfl rfl (fun _ _ _ h => h) (fun _ => hT) ?_
     refine al_take (i := 28) rfl (by kernel_rfl) (by kernel_rfl) (by kernel_rfl) rfl (fun _ _ _ h => h) (op_pick_t rfl rfl) rfl ?_
     refine al_done (by kernel_rfl) ?_
     refine pq_then ?_
     refine cw_cond_t rfl ?_
     refine cw_seq ?_
     refine cw_region ?_
     refine ol_pure rfl (op_assign rfl) ?_
     refine ol_nil ?_
     refine pq_then ?_
     refine cw_ret ?_
     refine pq_in_ret ?_
     refine pq_ret ?_
     refine pq_ret ?_
     refine pq_in_ret ?_
     refine pq_ret ?_
     refine ret1 rfl rfl ?_
     exact hS.sc_b (by symm; rw [decide_eq_false_iff_not]; rintro ⟨rfl, rfl⟩; simp_all)
    ·
     skip
     try simp only [decide_eq_true_eq, decide_eq_false_iff_not, Bool.not_eq_true', Bool.not_eq_false', Bool.not_eq_eq_eq_not, Bool.not_true, Bool.not_false] at h41
     refine al_gtake (i := 14) rfl (by kernel_rfl) (by kernel_rfl) (by kernel_rfl) rfl rfl rfl (fun _ _ _ h => h) (op_fieldAddr fld_34_0 rfl) rfl ?_
     refine al_gload (i := 15) rfl (by kernel_rfl) (by kernel_rfl) (by kernel_rfl) rfl rfl rfl (fun _ _ _ h => h) (by exact op_load1 one_32 rfl (fun w hw => (hw.bcell (i := 1) rfl).trans rfl)) rfl hT ?_
     refine al_gtake (i := 16) rfl (by kernel_rfl) (by kernel_rfl) (by kernel_rfl) rfl rfl rfl (fun _ _ _ h => h) (op_move rfl) rfl ?_
     refine al_gtake (i := 17) rfl (by kernel_rfl) (by kernel_rfl) (by kernel_rfl) rfl rfl rfl (fun _ _ _ h => h) (op_indexN sl_32 rfl rfl (by omega) hoP) rfl ?_
     refine al_gtake (i := 18) rfl (by kernel_rfl) (by kernel_rfl) (by kernel_rfl) rfl rfl rfl (fun _ _ _ h => h) (op_fieldAddr fld_37_1 rfl) rfl ?_
     refine al_gload (i := 19) rfl (by kernel_rfl) (by kernel_rfl) (by kernel_rfl) rfl rfl rfl (fun _ _ _ h => h) (by exact op_load1 one_28 rfl (fun w hw => hw.gcell (hcells1 1 _ rfl))) rfl hT ?_
     refine al_gtake (i := 20) rfl (by kernel_rfl) (by kernel_rfl) (by kernel_rfl) rfl rfl rfl (fun _ _ _ h => h) (op_fieldAddr fld_34_0 rfl) rfl ?_
     refine al_gload (i := 21) rfl (by kernel_rfl) (by kernel_rfl) (by kernel_rfl) rfl rfl rfl (fun _ _ _ h => h) (by exact op_load1 one_32 rfl (fun w hw => (hw.bcell (i := 0) rfl).trans rfl)) rfl hT ?_
     refine al_gtake (i := 22) rfl (by kernel_rfl) (by kernel_rfl) (by kernel_rfl) rfl rfl rfl (fun _ _ _ h => h) (op_move rfl) rfl ?_
     refine al_gtake (i := 23) rfl (by kernel_rfl) (by kernel_rfl) (by kernel_rfl) rfl rfl rfl (fun _ _ _ h => h) (op_indexN sl_32 rfl rfl (by omega) hoQ) rfl ?_
     refine al_gtake (i := 24) rfl (by kernel_rfl) (by kernel_rfl) (by kernel_rfl) rfl rfl rfl (fun _ _ _ h => h) (op_fieldAddr fld_37_1 rfl) rfl ?_
     refine al_gload (i := 25) rfl (by kernel_rfl) (by kernel_rfl) (by kernel_rfl) rfl rfl rfl (fun _ _ _ h => h) (by exact op_load1 one_28 rfl (fun w hw => hw.gcell (hcells2 1 _ rfl))) rfl hT ?_
     refine al_gstep (i := 26) rfl (by kernel_rfl) rfl rfl rfl (op_call_sc hS cf_18 rfl (R21_Ints_c G _ hS.hold _ _ l1[k].atoms l2[k].atoms hv1 hv2)) ?_
     clear hS
     rintro _ w ⟨rfl, hS⟩
     have hT := hT.back hS (by first | exact Le.refl _ | assumption) (fun x hx => by try simp only [List.take_succ_cons, List.take_zero, List.mem_cons, List.not_mem_nil, or_false] at hx; (rcases hx with rfl | rfl) <;> simp)
     refine ⟨fun _ _ => hT, ?_⟩
     refine al_gtake (i := 27) rfl (by kernel_rfl) (by kernel_rfl) (by kernel_rfl) rfl rfl rfl (fun _ _ _ h => h) (op_not rfl) rfl ?_
     refine al_take (i := 28) rfl (by kernel_rfl) (by kernel_rfl) (by kernel_rfl) rfl (fun _ _ _ h => h) (op_pick_f rfl rfl) rfl ?_
     refine al_done (by kernel_rfl) ?_
     refine pq_then ?_
     refine cw_cond rfl (fun h56 => ?_) (fun h56 => ?_)
     ·
      skip
      try simp only [decide_eq_true_eq, decide_eq_false_iff_not, Bool.not_eq_true', Bool.not_eq_false', Bool.not_eq_eq_eq_not, Bool.not_true, Bool.not_false] at h56
      refine cw_seq ?_
      refine cw_region ?_
      refine ol_pure rfl (op_assign rfl) ?_
      refine ol_nil ?_
      refine pq_then ?_
      refine cw_ret ?_
      refine pq_in_ret ?_
      refine pq_ret ?_
      refine pq_ret ?_
      refine pq_in_ret ?_
      refine pq_ret ?_
      refine ret1 rfl rfl ?_
      exact hS.sc_b (by symm; rw [decide_eq_false_iff_not]; rintro ⟨rfl, rfl⟩; simp_all)
     ·
      skip
      try simp only [decide_eq_true_eq, decide_eq_false_iff_not, Bool.not_eq_true', Bool.not_eq_false', Bool.not_eq_eq_eq_not, Bool.not_true, Bool.not_false] at h56
      refine cw_skip ?_
      refine pq_in_normal ?_
      refine pq_then ?_
      refine cw_region ?_
      refine ol_pure rfl (op_move rfl) ?_
      refine ol_pure rfl (op_add rfl rfl (by omega) (by omega)) ?_
      refine ol_pure rfl (op_assign rfl) ?_
      refine ol_nil ?_
      refine pq_loop _ _ (by exact ⟨k + 1, rfl, by omega, rfl, steps_take ha hb hp (by simp_all) (by simp_all), hS⟩) ((Sub.cons rfl (Sub.cons rfl (Sub.cons rfl Sub.nil)))) (by omega)
   ·
    skip
    try simp only [decide_eq_true_eq, decide_eq_false_iff_not, Bool.not_eq_true', Bool.not_eq_false', Bool.not_eq_eq_eq_not, Bool.not_true, Bool.not_false] at h25
    refine cw_exit ?_
    refine pq_exit ?_
    refine pq_exit ?_
    refine pq_in_exit ?_
    refine pq_then ?_
    refine cw_seq ?_
    refine cw_region ?_
    refine ol_pure rfl (op_assign rfl) ?_
    refine ol_nil ?_
    refine pq_then ?_
    refine cw_ret ?_
    refine ret1 rfl rfl ?_
    exact hS.sc_b (by symm; rw [decide_eq_true_eq]; exact ⟨steps_eq hll (by omega) hp, hhh⟩)
end Go.Proofs.Ytmkgechdfimfnaa.K
