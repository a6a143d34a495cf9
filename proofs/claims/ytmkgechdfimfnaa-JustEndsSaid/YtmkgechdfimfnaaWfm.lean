/-
  What follows if some atoms are so; the model; what is unfounded: layer wfm.
  No condition but the premises that each theorem names.
-/
import Derived.Test.YtmkgechdfimfnaaFrom
import Derived.Test.YtmkgechdfimfnaaPlm
namespace Go.Proofs.Ytmkgechdfimfnaa.K
open Go Go.RowKit
set_option linter.unusedVariables false
set_option linter.unusedSimpArgs false

open Pl
theorem Rows.bools (l : List Bool) : Rows 1 EBool noG (l.map Value.bool) l := Rows.of_map (fun _ _ => rfl)
theorem Rows.ints {l : List Int} (h : ∀ x ∈ l, -9223372036854775808 ≤ x ∧ x ≤ 9223372036854775807) : Rows 1 EInt noG (l.map (Value.int .i64)) l := Rows.of_map (fun x hx => ⟨rfl, h x hx⟩)
theorem Rows.boolsG (G : GH) (l : List Bool) : Rows 1 EBool G (l.map Value.bool) l := Rows.of_map (fun _ _ => rfl)

set_option maxRecDepth 100000 in

theorem wfm_Unfounded_1_c (G : GH) (w0 : World) (hG : Holds G w0) (m : List Int) (b : Nat) (vm : Value) (i what : Int) (hb : gcell G ⟨b, 0, none⟩ = some vm) (hm : RSl 1 EInt G vm m) (h0 : 0 ≤ i) :
   Calls Try.prog 60 #[.int .i64 i, .int .i64 what, .pointer (some ⟨b, 0, none⟩)] w0 (Sc w0 (.bool (isB m i what))) := by
 obtain ⟨oM, cM, rfl, hlM, hmM⟩ := hm.elim
 obtain ⟨j, rfl⟩ := Int.eq_ofNat_of_zero_le h0
 refine enter Try.func60 rfl (N := 18) rfl (Nat.le_of_ble_eq_true rfl) ?_
 have hS := SS.init hG
 refine cw_seq ?_
 refine cw_region ?_
 refine ol_pure rfl (op_assign rfl) ?_
 refine ol_nil ?_
 refine pq_then ?_
 refine cw_seq ?_
 refine cw_region ?_
 refine ol_pure rfl (op_move rfl) ?_
 refine ol_load rfl (op_load1 one_28 rfl (fun w hw => by first | exact hw.gcell (by assumption) | exact hw.gcell0 (by assumption))) hS ?_
 refine ol_pure rfl (op_len sl_28 rfl rfl) ?_
 refine ol_pure rfl (op_lss rfl rfl) ?_
 refine ol_pure rfl (op_move rfl) ?_
 refine ol_split (fun h10 => ?_) (fun h10 => ?_)
 ·
  skip
  try simp only [decide_eq_true_eq, decide_eq_false_iff_not, Bool.not_eq_true', Bool.not_eq_false', Bool.not_eq_eq_eq_not, Bool.not_true, Bool.not_false] at h10
  have hj : j < m.length := by omega
  obtain ⟨hoa, hc, hbd⟩ := hm.int hj
  refine ol_guard_load rfl rfl rfl (op_load1 one_28 rfl (fun w hw => by first | exact hw.gcell (by assumption) | exact hw.gcell0 (by assumption))) hS ?_
  refine ol_guard_pure rfl rfl rfl (op_move rfl) ?_
  refine ol_guard_pure rfl rfl rfl (op_indexN sl_28 rfl rfl (by omega) (by assumption)) ?_
  refine ol_guard_load rfl rfl rfl (op_load1 one_3 rfl (fun w hw => by first | exact hw.gcell (by assumption) | exact hw.gcell0 (by assumption))) hS ?_
  refine ol_guard_pure rfl rfl rfl (op_move rfl) ?_
  refine ol_guard_pure rfl rfl rfl (op_eql rfl rfl) ?_
  refine ol_pure rfl (op_pick_t rfl rfl) ?_
  refine ol_pure rfl (op_assign rfl) ?_
  refine ol_nil ?_
  refine pq_then ?_
  refine cw_ret ?_
  refine ret1 rfl rfl ?_
  exact hS.sc_b (by simp [isB, hj])
 ·
  skip
  try simp only [decide_eq_true_eq, decide_eq_false_iff_not, Bool.not_eq_true', Bool.not_eq_false', Bool.not_eq_eq_eq_not, Bool.not_true, Bool.not_false] at h10
  refine ol_guard_no rfl rfl rfl rfl ?_
  refine ol_guard_no rfl rfl rfl rfl ?_
  refine ol_guard_no rfl rfl rfl rfl ?_
  refine ol_guard_no rfl rfl rfl rfl ?_
  refine ol_guard_no rfl rfl rfl rfl ?_
  refine ol_guard_no rfl rfl rfl rfl ?_
  refine ol_pure rfl (op_pick_f rfl rfl) ?_
  refine ol_pure rfl (op_assign rfl) ?_
  refine ol_nil ?_
  refine pq_then ?_
  refine cw_ret ?_
  refine ret1 rfl rfl ?_
  have hj : m.length ≤ j := by omega
  exact hS.sc_b (by simp [isB, hj])
set_option maxRecDepth 100000 in

theorem wfm_Unfounded_2_c (G : GH) (w0 : World) (hG : Holds G w0) (r : Rule) (p q vm : Value) (b bm : Nat) (m : List Int) (h1 : RSl 1 EInt G p r.pos) (h2 : RSl 1 EInt G q r.neg) (hb : gcell G ⟨b, 0, none⟩ = some (.func (.func 60) #[] #[.pointer (some ⟨bm, 0, none⟩)])) (hbm : gcell G ⟨bm, 0, none⟩ = some vm) (hm : RSl 1 EInt G vm m) (hp0 : ∀ x ∈ r.pos, 0 ≤ x) (hn0 : ∀ x ∈ r.neg, 0 ≤ x) :
   Calls Try.prog 62 #[.agg #[.int .i64 r.head, p, q], .pointer (some ⟨b, 0, none⟩)] w0 (Sc w0 (.bool (!failsB r m))) := by
 obtain ⟨op, cp, rfl, hlp, hpm⟩ := h1.elim
 obtain ⟨oq, cq, rfl, hlq, hqm⟩ := h2.elim
 have hle1 := h1.le
 have hle2 := h2.le
 refine enter Try.func62 rfl (N := 30) rfl (Nat.le_of_ble_eq_true rfl) ?_
 have hS := SS.init hG
 refine cw_seq ?_
 refine cw_region ?_
 refine ol_step rfl (op_box hS rfl rfl) ?_
 clear hS
 rintro _ w ⟨b2, rfl, hS⟩
 refine ol_pure rfl (op_assign rfl) ?_
 refine ol_nil ?_
 refine pq_then ?_
 refine cw_seq ?_
 refine cw_seq ?_
 refine cw_region ?_
 refine ol_pure rfl (op_fieldAddr fld_30_1 rfl) ?_
 refine ol_load rfl (op_load1 one_28 rfl (fun w hw => (hw.bcell (i := 0) rfl).trans rfl)) hS ?_
 refine ol_pure rfl (op_len sl_28 rfl rfl) ?_
 refine ol_pure rfl (op_move rfl) ?_
 refine ol_nil ?_
 refine pq_then ?_
 refine cw_block ?_
 refine cw_loop (fun e w n => ∃ k : Nat, e = [(1, .pointer (some ⟨b, 0, none⟩)), (2, .pointer (some ⟨b2, 0, none⟩)), (9, .slice op r.pos.length cp), (10, .int .i64 (r.pos.length : Nat)), (11, .int .i64 (k : Nat))] ∧ k ≤ r.pos.length ∧ n = r.pos.length - k ∧ (r.pos.take k).any (isB m · 0) = false ∧ SS G w0 G [.blk b2 30 [.int .i64 r.head, .slice op r.pos.length cp, .slice oq r.neg.length cq]] w) _ _ (by exact ⟨0, rfl, Nat.zero_le _, rfl, rfl, hS⟩) ((Sub.cons rfl (Sub.cons rfl (Sub.cons rfl (Sub.cons rfl (Sub.cons rfl Sub.nil)))))) ?_
 clear hS
 rintro e w n ⟨k, rfl, hk, rfl, hp, hS⟩
 refine cw_seq ?_
 refine cw_region ?_
 refine ol_pure rfl (op_lss rfl rfl) ?_
 refine ol_nil ?_
 refine pq_then ?_
 refine cw_seq ?_
 refine cw_cond rfl (fun h12 => ?_) (fun h12 => ?_)
 ·
  skip
  try simp only [decide_eq_true_eq, decide_eq_false_iff_not, Bool.not_eq_true', Bool.not_eq_false', Bool.not_eq_eq_eq_not, Bool.not_true, Bool.not_false] at h12
  have hlt : k < r.pos.length := by omega
  obtain ⟨hoa, hc, hbd⟩ := h1.int hlt
  refine cw_skip ?_
  refine pq_then ?_
  refine cw_seq ?_
  refine cw_block ?_
  refine cw_seq ?_
  refine cw_region ?_
  refine ol_pure rfl (op_indexN sl_28 rfl rfl (by omega) (by assumption)) ?_
  refine ol_load rfl (op_load1 one_3 rfl (fun w hw => by first | exact hw.gcell (by assumption) | exact hw.gcell0 (by assumption))) hS ?_
  refine ol_pure rfl (op_assign rfl) ?_
  refine ol_nil ?_
  refine pq_then ?_
  refine cw_seq ?_
  refine cw_region ?_
  refine ol_load rfl (op_load1 one_81 rfl (fun w hw => by first | exact hw.gcell (by assumption) | exact hw.gcell0 (by assumption))) hS ?_
  refine ol_pure rfl (op_move rfl) ?_
  refine ol_step rfl (op_callv_sc hS cf_60 rfl rfl (wfm_Unfounded_1_c G _ hS.hold m bm _ _ 0 hbm hm (hp0 _ (List.getElem_mem hlt)))) ?_
  clear hS
  rintro _ w ⟨rfl, hS⟩
  refine ol_nil ?_
  refine pq_then ?_
  refine cw_cond rfl (fun h17 => ?_) (fun h17 => ?_)
  ·
   skip
   try simp only [decide_eq_true_eq, decide_eq_false_iff_not, Bool.not_eq_true', Bool.not_eq_false', Bool.not_eq_eq_eq_not, Bool.not_true, Bool.not_false] at h17
   refine cw_seq ?_
   refine cw_region ?_
   refine ol_pure rfl (op_assign rfl) ?_
   refine ol_nil ?_
   refine pq_then ?_
   refine cw_ret ?_
   refine pq_in_ret ?_
   refine pq_ret ?_
   refine pq_ret ?_
   refine pq_in_ret ?_
   refine pq_ret ?_
   refine ret1 rfl rfl ?_
   exact hS.sc_b (by rw [failsB, Pl.any_true_at (isB m · 0) _ _ hlt h17]; rfl)
  ·
   skip
   try simp only [decide_eq_true_eq, decide_eq_false_iff_not, Bool.not_eq_true', Bool.not_eq_false', Bool.not_eq_eq_eq_not, Bool.not_true, Bool.not_false] at h17
   refine cw_skip ?_
   refine pq_in_normal ?_
   refine pq_then ?_
   refine cw_region ?_
   refine ol_pure rfl (op_add rfl rfl (by omega) (by omega)) ?_
   refine ol_pure rfl (op_move rfl) ?_
   refine ol_nil ?_
   refine pq_loop _ _ (by exact ⟨k + 1, rfl, by omega, rfl, by rw [Pl.any_take_succ _ _ _ hlt, hp, h17]; rfl, hS⟩) ((Sub.cons rfl (Sub.cons rfl (Sub.cons rfl (Sub.cons rfl (Sub.cons rfl Sub.nil)))))) (by omega)
 ·
  skip
  try simp only [decide_eq_true_eq, decide_eq_false_iff_not, Bool.not_eq_true', Bool.not_eq_false', Bool.not_eq_eq_eq_not, Bool.not_true, Bool.not_false] at h12
  have hpos := Pl.any_of_take _ _ _ (show r.pos.length ≤ k by omega) hp
  clear hp hk h12
  refine cw_exit ?_
  refine pq_exit ?_
  refine pq_exit ?_
  refine pq_in_exit ?_
  refine pq_then ?_
  refine cw_seq ?_
  refine cw_seq ?_
  refine cw_region ?_
  refine ol_pure rfl (op_fieldAddr fld_30_2 rfl) ?_
  refine ol_load rfl (op_load1 one_28 rfl (fun w hw => (hw.bcell (i := 0) rfl).trans rfl)) hS ?_
  refine ol_pure rfl (op_len sl_28 rfl rfl) ?_
  refine ol_pure rfl (op_move rfl) ?_
  refine ol_nil ?_
  refine pq_then ?_
  refine cw_block ?_
  refine cw_loop (fun e w n => ∃ k : Nat, e = [(1, .pointer (some ⟨b, 0, none⟩)), (20, .slice oq r.neg.length cq), (21, .int .i64 (r.neg.length : Nat)), (22, .int .i64 (k : Nat))] ∧ k ≤ r.neg.length ∧ n = r.neg.length - k ∧ (r.neg.take k).any (isB m · 2) = false ∧ SS G w0 G [.blk b2 30 [.int .i64 r.head, .slice op r.pos.length cp, .slice oq r.neg.length cq]] w) _ _ (by exact ⟨0, rfl, Nat.zero_le _, rfl, rfl, hS⟩) ((Sub.cons rfl (Sub.cons rfl (Sub.cons rfl (Sub.cons rfl Sub.nil))))) ?_
  clear hS
  rintro e w n ⟨k, rfl, hk2, rfl, hp2, hS⟩
  refine cw_seq ?_
  refine cw_region ?_
  refine ol_pure rfl (op_lss rfl rfl) ?_
  refine ol_nil ?_
  refine pq_then ?_
  refine cw_seq ?_
  refine cw_cond rfl (fun h23 => ?_) (fun h23 => ?_)
  ·
   skip
   try simp only [decide_eq_true_eq, decide_eq_false_iff_not, Bool.not_eq_true', Bool.not_eq_false', Bool.not_eq_eq_eq_not, Bool.not_true, Bool.not_false] at h23
   have hlt : k < r.neg.length := by omega
   obtain ⟨hoa, hc, hbd⟩ := h2.int hlt
   refine cw_skip ?_
   refine pq_then ?_
   refine cw_seq ?_
   refine cw_block ?_
   refine cw_seq ?_
   refine cw_region ?_
   refine ol_pure rfl (op_indexN sl_28 rfl rfl (by omega) (by assumption)) ?_
   refine ol_load rfl (op_load1 one_3 rfl (fun w hw => by first | exact hw.gcell (by assumption) | exact hw.gcell0 (by assumption))) hS ?_
   refine ol_pure rfl (op_assign rfl) ?_
   refine ol_nil ?_
   refine pq_then ?_
   refine cw_seq ?_
   refine cw_region ?_
   refine ol_load rfl (op_load1 one_81 rfl (fun w hw => by first | exact hw.gcell (by assumption) | exact hw.gcell0 (by assumption))) hS ?_
   refine ol_pure rfl (op_move rfl) ?_
   refine ol_step rfl (op_callv_sc hS cf_60 rfl rfl (wfm_Unfounded_1_c G _ hS.hold m bm _ _ 2 hbm hm (hn0 _ (List.getElem_mem hlt)))) ?_
   clear hS
   rintro _ w ⟨rfl, hS⟩
   refine ol_nil ?_
   refine pq_then ?_
   refine cw_cond rfl (fun h28 => ?_) (fun h28 => ?_)
   ·
    skip
    try simp only [decide_eq_true_eq, decide_eq_false_iff_not, Bool.not_eq_true', Bool.not_eq_false', Bool.not_eq_eq_eq_not, Bool.not_true, Bool.not_false] at h28
    refine cw_seq ?_
    refine cw_region ?_
    refine ol_pure rfl (op_assign rfl) ?_
    refine ol_nil ?_
    refine pq_then ?_
    refine cw_ret ?_
    refine pq_in_ret ?_
    refine pq_ret ?_
    refine pq_ret ?_
    refine pq_in_ret ?_
    refine pq_ret ?_
    refine ret1 rfl rfl ?_
    exact hS.sc_b (by rw [failsB, Pl.any_true_at (isB m · 2) _ _ hlt h28, Bool.or_true]; rfl)
   ·
    skip
    try simp only [decide_eq_true_eq, decide_eq_false_iff_not, Bool.not_eq_true', Bool.not_eq_false', Bool.not_eq_eq_eq_not, Bool.not_true, Bool.not_false] at h28
    refine cw_skip ?_
    refine pq_in_normal ?_
    refine pq_then ?_
    refine cw_region ?_
    refine ol_pure rfl (op_add rfl rfl (by omega) (by omega)) ?_
    refine ol_pure rfl (op_move rfl) ?_
    refine ol_nil ?_
    refine pq_loop _ _ (by exact ⟨k + 1, rfl, by omega, rfl, by rw [Pl.any_take_succ _ _ _ hlt, hp2, h28]; rfl, hS⟩) ((Sub.cons rfl (Sub.cons rfl (Sub.cons rfl (Sub.cons rfl Sub.nil))))) (by omega)
  ·
   skip
   try simp only [decide_eq_true_eq, decide_eq_false_iff_not, Bool.not_eq_true', Bool.not_eq_false', Bool.not_eq_eq_eq_not, Bool.not_true, Bool.not_false] at h23
   refine cw_exit ?_
   refine pq_exit ?_
   refine pq_exit ?_
   refine pq_in_exit ?_
   refine pq_then ?_
   refine cw_seq ?_
   refine cw_region ?_
   refine ol_pure rfl (op_assign rfl) ?_
   refine ol_nil ?_
   refine pq_then ?_
   refine cw_ret ?_
   refine ret1 rfl rfl ?_
   exact hS.sc_b (by rw [failsB, hpos, Pl.any_of_take _ _ _ (show r.neg.length ≤ k by omega) hp2]; rfl)
set_option maxRecDepth 100000 in
set_option maxHeartbeats 400000 in

theorem wfm_Unfounded_c (G : GH) (w0 : World) (hG : Holds G w0) {α : Type} {E : ER α} (hE : EMono E) (va vr : Value) (atoms : List α) (rs : List Rule) (h1 : RSl 1 E G va atoms) (h2 : RSl 3 ERule G vr rs) (hP : PrOk atoms.length rs) (vm : Value) (m : List Int) (h3 : RSl 1 EInt G vm m) :
   Calls Try.prog 39 #[.agg #[va, vr], vm] w0 (Rt noG w0 (fun G v => RSl 1 EInt G v (unfI atoms.length rs m))) := by
 obtain ⟨oA, cA, rfl, hlA, hmA⟩ := h1.elim
 obtain ⟨oR, cR, rfl, hlR, hmR⟩ := h2.elim
 have hPn := hP.n_le
 have hPm := hP.m_le
 obtain ⟨oM, cM, rfl, hlM, hmM⟩ := h3.elim
 refine enter Try.func39 rfl (N := 29) rfl (Nat.le_of_ble_eq_true rfl) ?_
 have hS := SS.init hG
 refine cw_seq ?_
 refine cw_region ?_
 refine ol_step rfl (op_box hS rfl rfl) ?_
 clear hS
 rintro _ w ⟨b2, rfl, hS⟩
 refine ol_step rfl (op_box hS rfl rfl) ?_
 clear hS
 rintro _ w ⟨b3, rfl, hS⟩
 refine ol_pure rfl (op_assign rfl) ?_
 refine ol_nil ?_
 refine pq_then ?_
 refine cw_seq ?_
 refine cw_region ?_
 refine ol_pure rfl (op_makeFunc rfl rfl) ?_
 refine ol_step rfl (op_alloc hS el_81 rfl) ?_
 clear hS
 rintro _ w ⟨b5, rfl, hS⟩
 refine ol_step0  (op_storeB0 (j := 0) hS sz_81 rfl rfl rfl rfl) ?_
 clear hS
 rintro _ w hS; (try simp only [List.nil_append, List.cons_append, List.set] at hS)
 refine ol_nil ?_
 refine pq_then ?_
 refine cw_seq ?_
 refine cw_region ?_
 refine ol_load rfl (op_loadN agg_26 rfl (by rfl) (fun w hw k u hk => (hw.bcell (i := 2) rfl).trans hk)) hS ?_
 refine ol_pure rfl (op_makeFunc rfl rfl) ?_
 refine ol_step rfl (op_call_fr hS cf_61 rfl (wfm_from_c G _ hS.hold _ _ atoms rs h1 h2 (fun r => !failsB r m) 62 [.pointer (some ⟨b5, 0, none⟩)] cf_62 (fun w' hb r hr p q hp hq => wfm_Unfounded_2_c (fullG w') w' (Holds.full _) r p q _ b5 b3 m hp hq ((hS.kept hb).bcell0 (i := 0) rfl) ((hS.kept hb).bcell0 (i := 1) rfl) (h3.mono EInt.mono (hS.kept hb).hold.le_full) (fun x hx => ((hP.rule r hr).1.2.1 x hx).1) (fun x hx => ((hP.rule r hr).1.2.2 x hx).1)) hP.n_le hP.m_le hP.rule)) ?_
 clear hS
 rintro v13 w ⟨F13, G1, hR13, hF13, hf13, hl13, hS⟩
 obtain ⟨oF, cF, rfl, hlF, hmF⟩ := hR13.elimN (leastB_len _ _)
 have hFo : RSl 1 EBool G1 (.slice oF atoms.length cF) (foundB atoms.length rs m) := hR13.mono EBool.mono hf13
 refine ol_pure rfl (op_assign rfl) ?_
 refine ol_nil ?_
 refine pq_then ?_
 refine cw_seq ?_
 refine cw_region ?_
 refine ol_pure rfl (op_assign rfl) ?_
 refine ol_nil ?_
 refine pq_then ?_
 refine cw_seq ?_
 refine cw_seq ?_
 refine cw_region ?_
 refine ol_pure rfl (op_move rfl) ?_
 refine ol_pure rfl (op_len sl_49 rfl rfl) ?_
 refine ol_pure rfl (op_move rfl) ?_
 refine ol_nil ?_
 refine pq_then ?_
 refine cw_block ?_
 refine cw_loop (fun e w n => ∃ k o7 l7 c7, e = [(7, .slice o7 l7 c7), (14, .slice oF atoms.length cF), (15, .int .i64 (atoms.length : Nat)), (16, .int .i64 (k : Nat))] ∧ k ≤ atoms.length ∧ n = atoms.length - k ∧ l7 = (pickI (fun i => !atB (foundB atoms.length rs m) (i : Int)) k).length ∧ SS G w0 G1 (.row o7 l7 c7 3 1 ((pickI (fun i => !atB (foundB atoms.length rs m) (i : Int)) k).map (Value.int .i64)) :: [.blk b5 81 [.func (.func 60) #[] #[.pointer (some ⟨b3, 0, none⟩)]], .blk b3 28 [.slice oM m.length cM], .blk b2 26 [.slice oA atoms.length cA, .slice oR rs.length cR]]) w) _ _ (by exact ⟨0, none, 0, 0, rfl, Nat.zero_le _, rfl, rfl, hS.nil 3 1⟩) ((Sub.cons rfl (Sub.cons rfl (Sub.cons rfl (Sub.cons rfl Sub.nil))))) ?_
 clear hS
 rintro e w n ⟨k, o7, l7, c7, rfl, hk, rfl, hl7, hS⟩
 refine cw_seq ?_
 refine cw_region ?_
 refine ol_pure rfl (op_lss rfl rfl) ?_
 refine ol_nil ?_
 refine pq_then ?_
 refine cw_seq ?_
 refine cw_cond rfl (fun h17 => ?_) (fun h17 => ?_)
 ·
  skip
  try simp only [decide_eq_true_eq, decide_eq_false_iff_not, Bool.not_eq_true', Bool.not_eq_false', Bool.not_eq_eq_eq_not, Bool.not_true, Bool.not_false] at h17
  have hlt : k < atoms.length := by omega
  have hF' : k < (foundB atoms.length rs m).length := by rw [foundB_len]; exact hlt
  obtain ⟨hoF, hcF⟩ := hFo.bool hF'
  have hpl := pickI_len (fun i => !atB (foundB atoms.length rs m) (i : Int)) k
  have hat : atB (foundB atoms.length rs m) (k : Int) = (foundB atoms.length rs m)[k] := by rw [atB_nat]; simp [hF']
  refine cw_skip ?_
  refine pq_then ?_
  refine cw_seq ?_
  refine cw_block ?_
  refine cw_seq ?_
  refine cw_region ?_
  refine ol_pure rfl (op_move rfl) ?_
  refine ol_pure rfl (op_indexN sl_49 rfl rfl (by omega) (by assumption)) ?_
  refine ol_load rfl (op_load1 one_4 rfl (fun w hw => by first | exact hw.gcell (by assumption) | exact hw.gcell0 (by assumption))) hS ?_
  refine ol_pure rfl (op_assign rfl) ?_
  refine ol_pure rfl (op_assign rfl) ?_
  refine ol_nil ?_
  refine pq_then ?_
  refine cw_seq ?_
  refine cw_region ?_
  refine ol_pure rfl (op_move rfl) ?_
  refine ol_pure rfl (op_not rfl) ?_
  refine ol_nil ?_
  refine pq_then ?_
  refine cw_cond rfl (fun h22 => ?_) (fun h22 => ?_)
  ·
   skip
   try simp only [decide_eq_true_eq, decide_eq_false_iff_not, Bool.not_eq_true', Bool.not_eq_false', Bool.not_eq_eq_eq_not, Bool.not_true, Bool.not_false] at h22
   refine cw_region ?_
   refine ol_pure rfl (op_move rfl) ?_
   refine ol_pure rfl (op_move rfl) ?_
   refine ol_step rfl (op_buildSlice (el := 3) (is := [0]) (xs := [.tmp 24]) (sz := 1) (cs := [.int .i64 (k : Nat)]) hS rfl rfl (fun w => by kernel_rfl) rfl (by decide)) ?_
   clear hS
   rintro _ w ⟨s25, rfl, hS⟩
   refine ol_step rfl (op_append (j := 1) hS sl_28 el_3 rfl rfl rfl rfl rfl rfl (by decide) (hS.news (j := 0) rfl) (by simp [Value.oneCell']) (by omega) (by unfold maxLen; omega)) ?_
   clear hS
   rintro _ w ⟨o7n, c_o7n, rfl, hS⟩; (try simp only [List.nil_append, List.cons_append, List.set] at hS); replace hS := SS.drop [] hS; (try simp only [List.nil_append, List.cons_append] at hS)
   refine ol_pure rfl (op_assign rfl) ?_
   refine ol_nil ?_
   refine pq_in_normal ?_
   refine pq_then ?_
   refine cw_region ?_
   refine ol_pure rfl (op_add rfl rfl (by omega) (by omega)) ?_
   refine ol_pure rfl (op_move rfl) ?_
   refine ol_nil ?_
   refine pq_loop _ _ (by exact ⟨k + 1, o7n, l7 + 1, c_o7n, rfl, by omega, rfl, by rw [pickI_t (by simp [hat, h22])]; simp [hl7], by rw [pickI_t (by simp [hat, h22])]; simpa using hS⟩) ((Sub.cons rfl (Sub.cons rfl (Sub.cons rfl (Sub.cons rfl Sub.nil))))) (by omega)
  ·
   skip
   try simp only [decide_eq_true_eq, decide_eq_false_iff_not, Bool.not_eq_true', Bool.not_eq_false', Bool.not_eq_eq_eq_not, Bool.not_true, Bool.not_false] at h22
   refine cw_skip ?_
   refine pq_in_normal ?_
   refine pq_then ?_
   refine cw_region ?_
   refine ol_pure rfl (op_add rfl rfl (by omega) (by omega)) ?_
   refine ol_pure rfl (op_move rfl) ?_
   refine ol_nil ?_
   refine pq_loop _ _ (by exact ⟨k + 1, o7, l7, c7, rfl, by omega, rfl, by rw [pickI_f (by simp [hat, h22])]; exact hl7, by rw [pickI_f (by simp [hat, h22])]; exact hS⟩) ((Sub.cons rfl (Sub.cons rfl (Sub.cons rfl (Sub.cons rfl Sub.nil))))) (by omega)
 ·
  skip
  try simp only [decide_eq_true_eq, decide_eq_false_iff_not, Bool.not_eq_true', Bool.not_eq_false', Bool.not_eq_eq_eq_not, Bool.not_true, Bool.not_false] at h17
  refine cw_exit ?_
  refine pq_exit ?_
  refine pq_exit ?_
  refine pq_in_exit ?_
  refine pq_then ?_
  refine cw_seq ?_
  refine cw_region ?_
  refine ol_pure rfl (op_move rfl) ?_
  refine ol_pure rfl (op_assign rfl) ?_
  refine ol_nil ?_
  refine pq_then ?_
  refine cw_ret ?_
  refine ret1 rfl rfl ?_
  have hk0 : k = atoms.length := by omega
  subst hk0
  exact hS.rt_row [] (by decide) (Rows.ints (fun x hx => by have := pickI_range hx; omega)) EInt.mono hl7
end Go.Proofs.Ytmkgechdfimfnaa.K
