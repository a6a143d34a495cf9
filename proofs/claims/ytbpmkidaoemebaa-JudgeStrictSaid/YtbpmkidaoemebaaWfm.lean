/-
  What follows if some atoms are so; the model; what is unfounded: layer wfm.
  No condition but the premises that each theorem names.
-/
import Derived.Test.YtbpmkidaoemebaaFrom
import Derived.Test.YtbpmkidaoemebaaPlm
namespace Go.Proofs.Ytbpmkidaoemebaa.K
open Go Go.RowKit
set_option linter.unusedVariables false
set_option linter.unusedSimpArgs false

open Pl
theorem Rows.bools (l : List Bool) : Rows 1 EBool noG (l.map Value.bool) l := Rows.of_map (fun _ _ => rfl)
theorem Rows.ints {l : List Int} (h : ∀ x ∈ l, -9223372036854775808 ≤ x ∧ x ≤ 9223372036854775807) : Rows 1 EInt noG (l.map (Value.int .i64)) l := Rows.of_map (fun x hx => ⟨rfl, h x hx⟩)
theorem Rows.boolsG (G : GH) (l : List Bool) : Rows 1 EBool G (l.map Value.bool) l := Rows.of_map (fun _ _ => rfl)

set_option maxRecDepth 100000 in

theorem wfm_Least_1_c (G : GH) (w0 : World) (hG : Holds G w0) (r : Rule) (p q vso : Value) (b : Nat) (so : List Bool) (h2 : RSl 1 EInt G q r.neg) (hb : gcell G ⟨b, 0, none⟩ = some vso) (hso : RSl 1 EBool G vso so) (hn0 : ∀ x ∈ r.neg, 0 ≤ x) :
    Calls Try.prog 56 #[.agg #[.int .i64 r.head, p, q], .pointer (some ⟨b, 0, none⟩)] w0 (Sc w0 (.bool (!anyB so r.neg))) := by
  obtain ⟨oq, cq, rfl, hlq, hqm⟩ := h2.elim
  obtain ⟨oS, cS, rfl, hlS, hmS⟩ := hso.elim
  have hle2 := h2.le
  refine enter Try.func56 rfl (N := 24) rfl (Nat.le_of_ble_eq_true rfl) ?_
  have hS := SS.init hG
  refine cw_seq ?_
  refine cw_region ?_
  -- r0.0 t2 := box [48] t0
  refine ol_step rfl (op_box hS rfl rfl) ?_
  clear hS
  rintro _ w ⟨b2, rfl, hS⟩
  -- r0.1 t3 := assign  Cfalse
  refine ol_pure rfl (op_assign rfl) ?_
  refine ol_nil ?_
  refine pq_then ?_
  refine cw_seq ?_
  refine cw_seq ?_
  refine cw_region ?_
  -- r1.0 t6 := fieldAddr [48, 2] t2
  refine ol_pure rfl (op_fieldAddr fld_48_2 rfl) ?_
  -- r1.1 t7 := load [29] t6
  refine ol_load rfl (op_load1 one_29 rfl (fun w hw => (hw.bcell (i := 0) rfl).trans rfl)) hS ?_
  -- r1.2 t8 := call len t7
  refine ol_pure rfl (op_len sl_29 rfl rfl) ?_
  -- r1.3 t9 := move  C0
  refine ol_pure rfl (op_move rfl) ?_
  refine ol_nil ?_
  refine pq_then ?_
  refine cw_block ?_
  refine cw_loop (fun e w n => ∃ k : Nat, e = [(1, .pointer (some ⟨b, 0, none⟩)), (7, .slice oq r.neg.length cq), (8, .int .i64 (r.neg.length : Nat)), (9, .int .i64 (k : Nat))] ∧ k ≤ r.neg.length ∧ n = r.neg.length - k ∧ (r.neg.take k).any (atB so) = false ∧ SS G w0 G [.blk b2 48 [.int .i64 r.head, p, .slice oq r.neg.length cq]] w) _ _ (by exact ⟨0, rfl, Nat.zero_le _, rfl, rfl, hS⟩) ((Sub.cons rfl (Sub.cons rfl (Sub.cons rfl (Sub.cons rfl Sub.nil))))) ?_
  clear hS
  rintro e w n ⟨k, rfl, hk, rfl, hp, hS⟩
  refine cw_seq ?_
  refine cw_region ?_
  -- r2.0 t10 := lss t9 t8
  refine ol_pure rfl (op_lss rfl rfl) ?_
  refine ol_nil ?_
  refine pq_then ?_
  refine cw_seq ?_
  refine cw_cond rfl (fun h10 => ?_) (fun h10 => ?_)
  · skip
    try simp only [decide_eq_true_eq, decide_eq_false_iff_not, Bool.not_eq_true', Bool.not_eq_false', Bool.not_eq_eq_eq_not, Bool.not_true, Bool.not_false] at h10
    have hlt : k < r.neg.length := by omega
    obtain ⟨hoa, hc, hbd⟩ := h2.int hlt
    obtain ⟨j, hj⟩ := Int.eq_ofNat_of_zero_le (hn0 _ (List.getElem_mem hlt))
    rw [hj] at hc
    refine cw_skip ?_
    refine pq_then ?_
    refine cw_seq ?_
    refine cw_block ?_
    refine cw_seq ?_
    refine cw_region ?_
    -- r3.0 t11 := indexAddr [29] t7 t9
    refine ol_pure rfl (op_indexN sl_29 rfl rfl (by omega) (by assumption)) ?_
    -- r3.1 t12 := load [3] t11
    refine ol_load rfl (op_load1 one_3 rfl (fun w hw => by first | exact hw.gcell (by assumption) | exact hw.gcell0 (by assumption))) hS ?_
    -- r3.2 t5 := assign  t12
    refine ol_pure rfl (op_assign rfl) ?_
    refine ol_nil ?_
    refine pq_then ?_
    refine cw_seq ?_
    refine cw_region ?_
    -- r4.0 t13 := move  t5
    refine ol_pure rfl (op_move rfl) ?_
    -- r4.1 t14 := load [62] t1
    refine ol_load rfl (op_load1 one_62 rfl (fun w hw => by first | exact hw.gcell (by assumption) | exact hw.gcell0 (by assumption))) hS ?_
    -- r4.2 t15 := call len t14
    refine ol_pure rfl (op_len sl_62 rfl rfl) ?_
    -- r4.3 t16 := lss t13 t15
    refine ol_pure rfl (op_lss rfl rfl) ?_
    -- r4.4 t17 := move  t16
    refine ol_pure rfl (op_move rfl) ?_
    refine ol_split (fun h17 => ?_) (fun h17 => ?_)
    · skip
      try simp only [decide_eq_true_eq, decide_eq_false_iff_not, Bool.not_eq_true', Bool.not_eq_false', Bool.not_eq_eq_eq_not, Bool.not_true, Bool.not_false] at h17
      have hjl : j < so.length := by omega
      obtain ⟨hoS, hcS⟩ := hso.bool hjl
      -- r4.5 t18 := load [62] t1 ?4=True
      refine ol_guard_load rfl rfl rfl (op_load1 one_62 rfl (fun w hw => by first | exact hw.gcell (by assumption) | exact hw.gcell0 (by assumption))) hS ?_
      -- r4.6 t19 := move  t5 ?4=True
      refine ol_guard_pure rfl rfl rfl (op_move rfl) ?_
      -- r4.7 t20 := indexAddr [62] t18 t19 ?4=True
      refine ol_guard_pure rfl rfl rfl (op_indexN sl_62 rfl rfl (by omega) (by assumption)) ?_
      -- r4.8 t21 := load [4] t20 ?4=True
      refine ol_guard_load rfl rfl rfl (op_load1 one_4 rfl (fun w hw => by first | exact hw.gcell (by assumption) | exact hw.gcell0 (by assumption))) hS ?_
      -- r4.9 t22 := pick  t17 t21 Cfalse
      refine ol_pure rfl (op_pick_t rfl rfl) ?_
      refine ol_nil ?_
      refine pq_then ?_
      refine cw_cond rfl (fun h22 => ?_) (fun h22 => ?_)
      · skip
        try simp only [decide_eq_true_eq, decide_eq_false_iff_not, Bool.not_eq_true', Bool.not_eq_false', Bool.not_eq_eq_eq_not, Bool.not_true, Bool.not_false] at h22
        have hat : atB so r.neg[k] = true := by rw [hj, atB]; simp [hjl, h22]
        refine cw_seq ?_
        refine cw_region ?_
        -- r5.0 t3 := assign  Cfalse
        refine ol_pure rfl (op_assign rfl) ?_
        refine ol_nil ?_
        refine pq_then ?_
        refine cw_ret ?_
        refine pq_in_ret ?_
        refine pq_ret ?_
        refine pq_ret ?_
        refine pq_in_ret ?_
        refine pq_ret ?_
        refine ret1 rfl rfl ?_
        -- ret1 h10t h17t h22t
        exact hS.sc_b (by have := Pl.any_true_at _ _ _ hlt hat; rw [anyB, this]; rfl)
      · skip
        try simp only [decide_eq_true_eq, decide_eq_false_iff_not, Bool.not_eq_true', Bool.not_eq_false', Bool.not_eq_eq_eq_not, Bool.not_true, Bool.not_false] at h22
        have hat : atB so r.neg[k] = false := by rw [hj, atB]; simp [hjl, h22]
        refine cw_skip ?_
        refine pq_in_normal ?_
        refine pq_then ?_
        refine cw_region ?_
        -- r6.0 t23 := add t9 C1
        refine ol_pure rfl (op_add rfl rfl (by omega) (by omega)) ?_
        -- r6.1 t9 := move  t23
        refine ol_pure rfl (op_move rfl) ?_
        refine ol_nil ?_
        -- end of round 1 h10t h17t h22f
        refine pq_loop _ _ (by exact ⟨k + 1, rfl, by omega, rfl, by rw [Pl.any_take_succ _ _ _ hlt, hp, Bool.false_or]; exact hat, hS⟩) ((Sub.cons rfl (Sub.cons rfl (Sub.cons rfl (Sub.cons rfl Sub.nil))))) (by omega)
    · skip
      try simp only [decide_eq_true_eq, decide_eq_false_iff_not, Bool.not_eq_true', Bool.not_eq_false', Bool.not_eq_eq_eq_not, Bool.not_true, Bool.not_false] at h17
      have hat : atB so r.neg[k] = false := by
        have hjl : so.length ≤ j := by omega
        rw [hj, atB]; simp [hjl]
      refine ol_guard_no rfl rfl rfl rfl ?_
      refine ol_guard_no rfl rfl rfl rfl ?_
      refine ol_guard_no rfl rfl rfl rfl ?_
      refine ol_guard_no rfl rfl rfl rfl ?_
      -- r4.9 t22 := pick  t17 t21 Cfalse
      refine ol_pure rfl (op_pick_f rfl rfl) ?_
      refine ol_nil ?_
      refine pq_then ?_
      refine cw_cond_f rfl ?_
      refine cw_skip ?_
      refine pq_in_normal ?_
      refine pq_then ?_
      refine cw_region ?_
      -- r6.0 t23 := add t9 C1
      refine ol_pure rfl (op_add rfl rfl (by omega) (by omega)) ?_
      -- r6.1 t9 := move  t23
      refine ol_pure rfl (op_move rfl) ?_
      refine ol_nil ?_
      -- end of round 1 h10t h17f
      refine pq_loop _ _ (by exact ⟨k + 1, rfl, by omega, rfl, by rw [Pl.any_take_succ _ _ _ hlt, hp, Bool.false_or]; exact hat, hS⟩) ((Sub.cons rfl (Sub.cons rfl (Sub.cons rfl (Sub.cons rfl Sub.nil))))) (by omega)
  · skip
    try simp only [decide_eq_true_eq, decide_eq_false_iff_not, Bool.not_eq_true', Bool.not_eq_false', Bool.not_eq_eq_eq_not, Bool.not_true, Bool.not_false] at h10
    refine cw_exit ?_
    refine pq_exit ?_
    refine pq_exit ?_
    refine pq_in_exit ?_
    refine pq_then ?_
    refine cw_seq ?_
    refine cw_region ?_
    -- r7.0 t3 := assign  Ctrue
    refine ol_pure rfl (op_assign rfl) ?_
    refine ol_nil ?_
    refine pq_then ?_
    refine cw_ret ?_
    refine ret1 rfl rfl ?_
    -- ret2 h10f
    exact hS.sc_b (by rw [anyB, Pl.any_of_take _ _ _ (by omega) hp]; rfl)
set_option maxRecDepth 100000 in

theorem wfm_Least_c (G : GH) (w0 : World) (hG : Holds G w0) {α : Type} {E : ER α} (hE : EMono E) (va vr : Value) (atoms : List α) (rs : List Rule) (h1 : RSl 1 E G va atoms) (h2 : RSl 3 ERule G vr rs) (hP : PrOk atoms.length rs) (vso : Value) (so : List Bool) (h3 : RSl 1 EBool G vso so) :
    Calls Try.prog 34 #[.agg #[va, vr], vso] w0 (Rt noG w0 (fun G v => RSl 1 EBool G v (gam atoms.length rs so))) := by
  obtain ⟨oS, cS, rfl, hlS, hmS⟩ := h3.elim
  refine enter Try.func34 rfl (N := 8) rfl (Nat.le_of_ble_eq_true rfl) ?_
  have hS := SS.init hG
  refine cw_seq ?_
  refine cw_region ?_
  -- r0.0 t2 := box [25] t0
  refine ol_step rfl (op_box hS rfl rfl) ?_
  clear hS
  rintro _ w ⟨b2, rfl, hS⟩
  -- r0.1 t3 := box [62] t1
  refine ol_step rfl (op_box hS rfl rfl) ?_
  clear hS
  rintro _ w ⟨b3, rfl, hS⟩
  -- r0.2 t4 := assign  C(slice (none Addr) 0 0)
  refine ol_pure rfl (op_assign rfl) ?_
  refine ol_nil ?_
  refine pq_then ?_
  refine cw_seq ?_
  refine cw_region ?_
  -- r1.0 t5 := load [25] t2
  refine ol_load rfl (op_loadN agg_25 rfl (by rfl) (fun w hw k u hk => (hw.bcell (i := 1) rfl).trans hk)) hS ?_
  -- r1.1 t6 := makeFunc (func 56) |t3
  refine ol_pure rfl (op_makeFunc rfl rfl) ?_
  -- r1.2 t7 := call f46 t5 t6
  refine ol_step rfl (op_call_fr hS cf_46 rfl (wfm_from_c G _ hS.hold va vr atoms rs h1 h2 (fun r => !anyB so r.neg) 56 [.pointer (some ⟨b3, 0, none⟩)] cf_56 (fun w' hb r hr p q _ hq => wfm_Least_1_c (fullG w') w' (Holds.full _) r p q _ b3 so hq ((hS.kept hb).bcell0 (i := 0) rfl) (h3.mono EBool.mono (hS.kept hb).hold.le_full) (fun x hx => ((hP.rule r hr).1.2.2 x hx).1)) hP.n_le hP.m_le hP.rule)) ?_
  clear hS
  rintro v7 w ⟨F7, G7, hR7, hF7, hf7, hl7, hS⟩
  -- r1.3 t4 := assign  t7
  refine ol_pure rfl (op_assign rfl) ?_
  refine ol_nil ?_
  refine pq_then ?_
  refine cw_ret ?_
  refine ret1 rfl rfl ?_
  -- ret1 
  exact hS.rt_fr hf7 hF7 hR7
set_option maxRecDepth 100000 in
set_option maxHeartbeats 400000 in

theorem wfm_Model_c (G : GH) (w0 : World) (hG : Holds G w0) {α : Type} {E : ER α} (hE : EMono E) (va vr : Value) (atoms : List α) (rs : List Rule) (h1 : RSl 1 E G va atoms) (h2 : RSl 3 ERule G vr rs) (hP : PrOk atoms.length rs)  :
    Calls Try.prog 17 #[.agg #[va, vr]] w0 (Rt noG w0 (fun G v => RSl 1 EInt G v (modelI atoms.length rs))) := by
  obtain ⟨oA, cA, rfl, hlA, hmA⟩ := h1.elim
  obtain ⟨oR, cR, rfl, hlR, hmR⟩ := h2.elim
  have hPn := hP.n_le
  have hPm := hP.m_le
  refine enter Try.func17 rfl (N := 75) rfl (Nat.le_of_ble_eq_true rfl) ?_
  have hS := SS.init hG
  refine cw_seq ?_
  refine cw_region ?_
  -- r0.0 t1 := box [25] t0
  refine ol_step rfl (op_box hS rfl rfl) ?_
  clear hS
  rintro _ w ⟨b1, rfl, hS⟩
  -- r0.1 t2 := assign  C(slice (none Addr) 0 0)
  refine ol_pure rfl (op_assign rfl) ?_
  refine ol_nil ?_
  refine pq_then ?_
  refine cw_scope ?_
  refine cw_seq ?_
  refine cw_region ?_
  -- r1.0 t11 := fieldAddr [25, 0] t1
  refine ol_pure rfl (op_fieldAddr fld_25_0 rfl) ?_
  -- r1.1 t12 := load [22] t11
  refine ol_load rfl (op_load1 one_22 rfl (fun w hw => (hw.bcell (i := 0) rfl).trans rfl)) hS ?_
  -- r1.2 t13 := call len t12
  refine ol_pure rfl (op_len sl_22 rfl rfl) ?_
  -- r1.3 t14 := makeSlice [62] t13 t13
  refine ol_step rfl (op_makeSlice (n := atoms.length) hS sl_62 el_4 rfl rfl rfl (by omega) (by unfold maxLen; omega)) ?_
  clear hS
  rintro _ w ⟨up, rfl, hS⟩
  -- r1.4 t3 := assign  t14
  refine ol_pure rfl (op_assign rfl) ?_
  refine ol_nil ?_
  refine pq_then ?_
  refine cw_seq ?_
  refine cw_seq ?_
  refine cw_region ?_
  -- r2.0 t15 := move  t3
  refine ol_pure rfl (op_move rfl) ?_
  -- r2.1 t16 := call len t15
  refine ol_pure rfl (op_len sl_62 rfl rfl) ?_
  -- r2.2 t17 := move  C0
  refine ol_pure rfl (op_move rfl) ?_
  refine ol_nil ?_
  refine pq_then ?_
  refine cw_block ?_
  refine cw_loop (fun e w n => ∃ k : Nat, e = [(1, .pointer (some ⟨b1, 0, none⟩)), (3, .slice up atoms.length atoms.length), (16, .int .i64 (atoms.length : Nat)), (17, .int .i64 (k : Nat))] ∧ k ≤ atoms.length ∧ n = atoms.length - k ∧ SS G w0 G [.row up atoms.length atoms.length 4 1 (((List.replicate atoms.length true).take k).map Value.bool ++ List.replicate (atoms.length - k) (.bool false)), .blk b1 25 [.slice oA atoms.length cA, .slice oR rs.length cR]] w) _ _ (by exact ⟨0, rfl, Nat.zero_le _, rfl, by simpa using hS⟩) ((Sub.cons rfl (Sub.cons rfl (Sub.cons rfl (Sub.cons rfl Sub.nil))))) ?_
  clear hS
  rintro e w n ⟨k, rfl, hk, rfl, hS⟩
  refine cw_seq ?_
  refine cw_region ?_
  -- r3.0 t18 := lss t17 t16
  refine ol_pure rfl (op_lss rfl rfl) ?_
  refine ol_nil ?_
  refine pq_then ?_
  refine cw_seq ?_
  refine cw_cond rfl (fun h18 => ?_) (fun h18 => ?_)
  · skip
    try simp only [decide_eq_true_eq, decide_eq_false_iff_not, Bool.not_eq_true', Bool.not_eq_false', Bool.not_eq_eq_eq_not, Bool.not_true, Bool.not_false] at h18
    have hlt : k < atoms.length := by omega
    refine cw_skip ?_
    refine pq_then ?_
    refine cw_seq ?_
    refine cw_block ?_
    refine cw_seq ?_
    refine cw_region ?_
    -- r4.0 t19 := move  t17
    refine ol_pure rfl (op_move rfl) ?_
    -- r4.1 t4 := assign  t19
    refine ol_pure rfl (op_assign rfl) ?_
    refine ol_nil ?_
    refine pq_then ?_
    refine cw_region ?_
    -- r5.0 t20 := move  t3
    refine ol_pure rfl (op_move rfl) ?_
    -- r5.1 t21 := move  t4
    refine ol_pure rfl (op_move rfl) ?_
    -- r5.2 t22 := indexAddr [62] t20 t21
    have hoa := (hS.news (j := 0) rfl k _ (List.getElem?_eq_getElem (by simp; omega))).1
    refine ol_pure rfl (op_indexN sl_62 rfl rfl (by omega) (by assumption)) ?_
    -- r5.3 _ := store [4] t22 Ctrue
    refine ol_step0  (op_storeR (j := 0) (k := k * 1) hS sz_4 rfl rfl rfl rfl (by simp; omega)) ?_
    clear hS
    rintro _ w hS; (try simp only [List.nil_append, List.cons_append, List.set] at hS)
    rw [fill_set Value.bool (.bool false) (List.replicate atoms.length true) atoms.length k true hlt (by simp [hlt])] at hS
    refine ol_nil ?_
    refine pq_in_normal ?_
    refine pq_then ?_
    refine cw_region ?_
    -- r6.0 t23 := add t17 C1
    refine ol_pure rfl (op_add rfl rfl (by omega) (by omega)) ?_
    -- r6.1 t17 := move  t23
    refine ol_pure rfl (op_move rfl) ?_
    refine ol_nil ?_
    -- end of round 1 h18t
    refine pq_loop _ _ (by exact ⟨k + 1, rfl, by omega, rfl, hS⟩) ((Sub.cons rfl (Sub.cons rfl (Sub.cons rfl (Sub.cons rfl Sub.nil))))) (by omega)
  · skip
    try simp only [decide_eq_true_eq, decide_eq_false_iff_not, Bool.not_eq_true', Bool.not_eq_false', Bool.not_eq_eq_eq_not, Bool.not_true, Bool.not_false] at h18
    have hk0 : k = atoms.length := by omega
    subst hk0
    rw [Nat.sub_self, List.replicate_zero, List.append_nil, List.take_of_length_le (by simp)] at hS
    obtain ⟨G1, hl1, hS2, hUp⟩ := SS.give [] hS (by decide) EBool.mono (Rows.boolsG G (List.replicate atoms.length true)) (by simp)
    clear hS
    have hS := hS2
    clear hS2
    refine cw_exit ?_
    refine pq_exit ?_
    refine pq_exit ?_
    refine pq_in_exit ?_
    refine pq_then ?_
    refine cw_seq ?_
    refine cw_region ?_
    -- r7.0 t24 := load [25] t1
    refine ol_load rfl (op_loadN agg_25 rfl (by rfl) (fun w hw k u hk => (hw.bcell (i := 0) rfl).trans hk)) hS ?_
    -- r7.1 t25 := move  t3
    refine ol_pure rfl (op_move rfl) ?_
    -- r7.2 t26 := call f34 t24 t25
    refine ol_step rfl (op_call_fr hS cf_34 rfl (wfm_Least_c G1 _ hS.hold hE _ _ atoms rs (h1.mono hE hl1) (h2.mono ERule.mono hl1) hP _ _ hUp)) ?_
    clear hS
    rintro v26 w ⟨F26, G2, hR26, hF26, hf26, hl26, hS⟩
    obtain ⟨oL, cL, rfl, hlL, hmL⟩ := hR26.elimN (gam_len _ _ _)
    -- r7.3 t5 := assign  t26
    refine ol_pure rfl (op_assign rfl) ?_
    refine ol_nil ?_
    refine pq_then ?_
    refine cw_seq ?_
    refine cw_label ?_
    refine pq_then ?_
    refine cw_seq ?_
    refine cw_block ?_
    refine cw_loop (fun e w n => ∃ kk oL cL Gl, e = [(1, .pointer (some ⟨b1, 0, none⟩)), (5, .slice oL atoms.length cL)] ∧ RSl 1 EBool Gl (.slice oL atoms.length cL) (altB atoms.length rs kk) ∧ Le G Gl ∧ n = atoms.length - cntB (altB atoms.length rs kk) ∧ SS G w0 Gl [.blk b1 25 [.slice oA atoms.length cA, .slice oR rs.length cR]] w) _ _ (by exact ⟨0, oL, cL, G2, rfl, hR26.mono EBool.mono hf26, hl1.trans hl26, rfl, hS⟩) ((Sub.cons rfl (Sub.cons rfl Sub.nil))) ?_
    clear hS
    rintro e w n ⟨kk, oL, cL, Gl, rfl, hlow, hlG, rfl, hS⟩
    refine cw_block ?_
    refine cw_seq ?_
    refine cw_region ?_
    -- r8.0 t27 := load [25] t1
    refine ol_load rfl (op_loadN agg_25 rfl (by rfl) (fun w hw k u hk => (hw.bcell (i := 0) rfl).trans hk)) hS ?_
    -- r8.1 t28 := move  t5
    refine ol_pure rfl (op_move rfl) ?_
    -- r8.2 t29 := call f34 t27 t28
    refine ol_step rfl (op_call_fr hS cf_34 rfl (wfm_Least_c Gl _ hS.hold hE _ _ atoms rs (h1.mono hE hlG) (h2.mono ERule.mono hlG) hP _ _ hlow)) ?_
    clear hS
    rintro v29 w ⟨F29, Gh, hR29, hF29, hf29, hl29, hS⟩
    obtain ⟨oH, cH, rfl, hlH, hmH⟩ := hR29.elimN (gam_len _ _ _)
    -- r8.3 t3 := assign  t29
    refine ol_pure rfl (op_assign rfl) ?_
    refine ol_nil ?_
    refine pq_then ?_
    refine cw_seq ?_
    refine cw_region ?_
    -- r9.0 t30 := load [25] t1
    refine ol_load rfl (op_loadN agg_25 rfl (by rfl) (fun w hw k u hk => (hw.bcell (i := 0) rfl).trans hk)) hS ?_
    -- r9.1 t31 := move  t3
    refine ol_pure rfl (op_move rfl) ?_
    -- r9.2 t32 := call f34 t30 t31
    refine ol_step rfl (op_call_fr hS cf_34 rfl (wfm_Least_c Gh _ hS.hold hE _ _ atoms rs (h1.mono hE (hlG.trans hl29)) (h2.mono ERule.mono (hlG.trans hl29)) hP _ _ (hR29.mono EBool.mono hf29))) ?_
    clear hS
    rintro v32 w ⟨F32, Gn, hR32, hF32, hf32, hl32, hS⟩
    obtain ⟨oN, cN, rfl, hlN, hmN⟩ := hR32.elimN (gam_len _ _ _)
    have hNx : RSl 1 EBool Gn (.slice oN atoms.length cN) (altB atoms.length rs (kk + 1)) := hR32.mono EBool.mono hf32
    have hLo := hlow.mono EBool.mono (hl29.trans hl32)
    have hHi := (hR29.mono EBool.mono hf29).mono EBool.mono hl32
    -- r9.3 t6 := assign  t32
    refine ol_pure rfl (op_assign rfl) ?_
    refine ol_nil ?_
    refine pq_then ?_
    refine cw_seq ?_
    refine cw_seq ?_
    refine cw_region ?_
    -- r10.0 t33 := move  t6
    refine ol_pure rfl (op_move rfl) ?_
    -- r10.1 t34 := call len t33
    refine ol_pure rfl (op_len sl_62 rfl rfl) ?_
    -- r10.2 t35 := move  C0
    refine ol_pure rfl (op_move rfl) ?_
    refine ol_nil ?_
    refine pq_then ?_
    refine cw_block ?_
    refine cw_loop (fun e w n => ∃ k : Nat, e = [(1, .pointer (some ⟨b1, 0, none⟩)), (3, .slice oH atoms.length cH), (5, .slice oL atoms.length cL), (6, .slice oN atoms.length cN), (33, .slice oN atoms.length cN), (34, .int .i64 (atoms.length : Nat)), (35, .int .i64 (k : Nat))] ∧ k ≤ atoms.length ∧ n = atoms.length - k ∧ (altB atoms.length rs (kk + 1)).take k = (altB atoms.length rs kk).take k ∧ SS G w0 Gn [.blk b1 25 [.slice oA atoms.length cA, .slice oR rs.length cR]] w) _ _ (by exact ⟨0, rfl, Nat.zero_le _, rfl, rfl, hS⟩) ((Sub.cons rfl (Sub.cons rfl (Sub.cons rfl (Sub.cons rfl (Sub.cons rfl (Sub.cons rfl (Sub.cons rfl Sub.nil)))))))) ?_
    clear hS
    rintro e w n ⟨k, rfl, hk, rfl, hp, hS⟩
    refine cw_seq ?_
    refine cw_region ?_
    -- r11.0 t36 := lss t35 t34
    refine ol_pure rfl (op_lss rfl rfl) ?_
    refine ol_nil ?_
    refine pq_then ?_
    refine cw_seq ?_
    refine cw_cond rfl (fun h36 => ?_) (fun h36 => ?_)
    · skip
      try simp only [decide_eq_true_eq, decide_eq_false_iff_not, Bool.not_eq_true', Bool.not_eq_false', Bool.not_eq_eq_eq_not, Bool.not_true, Bool.not_false] at h36
      have hlt : k < atoms.length := by omega
      have hN' : k < (altB atoms.length rs (kk + 1)).length := by rw [altB_len]; exact hlt
      have hL' : k < (altB atoms.length rs kk).length := by rw [altB_len]; exact hlt
      obtain ⟨hoN, hcN⟩ := hNx.bool hN'
      obtain ⟨hoL, hcL⟩ := hLo.bool hL'
      refine cw_skip ?_
      refine pq_then ?_
      refine cw_seq ?_
      refine cw_block ?_
      refine cw_seq ?_
      refine cw_region ?_
      -- r12.0 t37 := move  t35
      refine ol_pure rfl (op_move rfl) ?_
      -- r12.1 t38 := indexAddr [62] t33 t35
      refine ol_pure rfl (op_indexN sl_62 rfl rfl (by omega) (by assumption)) ?_
      -- r12.2 t39 := load [4] t38
      refine ol_load rfl (op_load1 one_4 rfl (fun w hw => by first | exact hw.gcell (by assumption) | exact hw.gcell0 (by assumption))) hS ?_
      -- r12.3 t7 := assign  t37
      refine ol_pure rfl (op_assign rfl) ?_
      -- r12.4 t8 := assign  t39
      refine ol_pure rfl (op_assign rfl) ?_
      refine ol_nil ?_
      refine pq_then ?_
      refine cw_seq ?_
      refine cw_region ?_
      -- r13.0 t40 := move  t8
      refine ol_pure rfl (op_move rfl) ?_
      -- r13.1 t41 := move  t5
      refine ol_pure rfl (op_move rfl) ?_
      -- r13.2 t42 := move  t7
      refine ol_pure rfl (op_move rfl) ?_
      -- r13.3 t43 := indexAddr [62] t41 t42
      refine ol_pure rfl (op_indexN sl_62 rfl rfl (by omega) (by assumption)) ?_
      -- r13.4 t44 := load [4] t43
      refine ol_load rfl (op_load1 one_4 rfl (fun w hw => by first | exact hw.gcell (by assumption) | exact hw.gcell0 (by assumption))) hS ?_
      -- r13.5 t45 := neq t40 t44
      refine ol_pure rfl (op_neqB Try.underlying4 rfl rfl) ?_
      refine ol_nil ?_
      refine pq_then ?_
      refine cw_cond rfl (fun h45 => ?_) (fun h45 => ?_)
      · skip
        try simp only [decide_eq_true_eq, decide_eq_false_iff_not, Bool.not_eq_true', Bool.not_eq_false', Bool.not_eq_eq_eq_not, Bool.not_true, Bool.not_false] at h45
        have hne : altB atoms.length rs (kk + 1) ≠ altB atoms.length rs kk := Pl.ne_of_at hN' hL' (by simpa using h45)
        refine cw_seq ?_
        refine cw_region ?_
        -- r14.0 t46 := move  t6
        refine ol_pure rfl (op_move rfl) ?_
        -- r14.1 t5 := assign  t46
        refine ol_pure rfl (op_assign rfl) ?_
        refine ol_nil ?_
        refine pq_then ?_
        refine cw_exit ?_
        refine pq_in_other rfl ?_
        refine pq_exit ?_
        refine pq_exit ?_
        refine pq_in_other rfl ?_
        refine pq_exit ?_
        refine pq_in_exit ?_
        -- end of round 2 h18f h36t h45t
        refine pq_loop _ _ (by exact ⟨kk + 1, oN, cN, Gn, rfl, hNx, (hlG.trans hl29).trans hl32, rfl, hS⟩) ((Sub.cons rfl (Sub.cons rfl Sub.nil))) (by
            have h1 := altB_lt hP kk hne
            have h2 := cntB_le (altB atoms.length rs (kk + 1))
            rw [altB_len] at h2
            omega)
      · skip
        try simp only [decide_eq_true_eq, decide_eq_false_iff_not, Bool.not_eq_true', Bool.not_eq_false', Bool.not_eq_eq_eq_not, Bool.not_true, Bool.not_false] at h45
        refine cw_skip ?_
        refine pq_in_normal ?_
        refine pq_then ?_
        refine cw_region ?_
        -- r15.0 t47 := add t35 C1
        refine ol_pure rfl (op_add rfl rfl (by omega) (by omega)) ?_
        -- r15.1 t35 := move  t47
        refine ol_pure rfl (op_move rfl) ?_
        refine ol_nil ?_
        -- end of round 3 h18f h36t h45f
        refine pq_loop _ _ (by exact ⟨k + 1, rfl, by omega, rfl, Pl.take_eq_succ hN' hL' hp (by simpa using h45), hS⟩) ((Sub.cons rfl (Sub.cons rfl (Sub.cons rfl (Sub.cons rfl (Sub.cons rfl (Sub.cons rfl (Sub.cons rfl Sub.nil)))))))) (by omega)
    · skip
      try simp only [decide_eq_true_eq, decide_eq_false_iff_not, Bool.not_eq_true', Bool.not_eq_false', Bool.not_eq_eq_eq_not, Bool.not_true, Bool.not_false] at h36
      have heq : altB atoms.length rs (kk + 1) = altB atoms.length rs kk := Pl.eq_of_take (by rw [altB_len, altB_len]) (by rw [altB_len]; omega) hp
      have hdone := altB_done hP heq
      rw [hdone] at hLo hHi
      refine cw_exit ?_
      refine pq_exit ?_
      refine pq_exit ?_
      refine pq_in_exit ?_
      refine pq_then ?_
      refine cw_exit ?_
      refine pq_in_other rfl ?_
      refine pq_exit ?_
      refine pq_in_exit ?_
      refine pq_then ?_
      refine cw_seq ?_
      refine cw_region ?_
      -- r16.0 t48 := fieldAddr [25, 0] t1
      refine ol_pure rfl (op_fieldAddr fld_25_0 rfl) ?_
      -- r16.1 t49 := load [22] t48
      refine ol_load rfl (op_load1 one_22 rfl (fun w hw => (hw.bcell (i := 0) rfl).trans rfl)) hS ?_
      -- r16.2 t50 := call len t49
      refine ol_pure rfl (op_len sl_22 rfl rfl) ?_
      -- r16.3 t51 := makeSlice [29] t50 t50
      refine ol_step rfl (op_makeSlice (n := atoms.length) hS sl_29 el_3 rfl rfl rfl (by omega) (by unfold maxLen; omega)) ?_
      clear hS
      rintro _ w ⟨out, rfl, hS⟩
      -- r16.4 t9 := assign  t51
      refine ol_pure rfl (op_assign rfl) ?_
      refine ol_nil ?_
      refine pq_then ?_
      refine cw_seq ?_
      refine cw_seq ?_
      refine cw_region ?_
      -- r17.0 t52 := move  t9
      refine ol_pure rfl (op_move rfl) ?_
      -- r17.1 t53 := call len t52
      refine ol_pure rfl (op_len sl_29 rfl rfl) ?_
      -- r17.2 t54 := move  C0
      refine ol_pure rfl (op_move rfl) ?_
      refine ol_nil ?_
      refine pq_then ?_
      refine cw_block ?_
      refine cw_loop (fun e w n => ∃ i : Nat, e = [(3, .slice oH atoms.length cH), (5, .slice oL atoms.length cL), (9, .slice out atoms.length atoms.length), (53, .int .i64 (atoms.length : Nat)), (54, .int .i64 (i : Nat))] ∧ i ≤ atoms.length ∧ n = atoms.length - i ∧ SS G w0 Gn [.row out atoms.length atoms.length 3 1 (((modelI atoms.length rs).take i).map (Value.int .i64) ++ List.replicate (atoms.length - i) (.int .i64 0)), .blk b1 25 [.slice oA atoms.length cA, .slice oR rs.length cR]] w) _ _ (by exact ⟨0, rfl, Nat.zero_le _, rfl, by simpa using hS⟩) ((Sub.cons rfl (Sub.cons rfl (Sub.cons rfl (Sub.cons rfl (Sub.cons rfl Sub.nil)))))) ?_
      clear hS
      rintro e w n ⟨i, rfl, hi, rfl, hS⟩
      refine cw_seq ?_
      refine cw_region ?_
      -- r18.0 t55 := lss t54 t53
      refine ol_pure rfl (op_lss rfl rfl) ?_
      refine ol_nil ?_
      refine pq_then ?_
      refine cw_seq ?_
      refine cw_cond rfl (fun h55 => ?_) (fun h55 => ?_)
      · skip
        try simp only [decide_eq_true_eq, decide_eq_false_iff_not, Bool.not_eq_true', Bool.not_eq_false', Bool.not_eq_eq_eq_not, Bool.not_true, Bool.not_false] at h55
        have hlt : i < atoms.length := by omega
        have hl1 : i < (lowB atoms.length rs).length := by rw [lowB, altB_len]; exact hlt
        have hl2 : i < (gam atoms.length rs (lowB atoms.length rs)).length := by rw [gam_len]; exact hlt
        obtain ⟨hoL, hcL⟩ := hLo.bool hl1
        obtain ⟨hoH, hcH⟩ := hHi.bool hl2
        have hoa := (hS.news (j := 0) rfl i _ (List.getElem?_eq_getElem (by simp [modelI_len]; omega))).1
        have hg : (modelI atoms.length rs)[i]? = some (if (lowB atoms.length rs)[i] = true then 2 else if (gam atoms.length rs (lowB atoms.length rs))[i] = true then 1 else 0) := by
          rw [List.getElem?_eq_getElem (by rw [modelI_len]; exact hlt), modelI_get, atB_nat, atB_nat]
          simp [hl1, hl2]
        refine cw_skip ?_
        refine pq_then ?_
        refine cw_seq ?_
        refine cw_block ?_
        refine cw_seq ?_
        refine cw_region ?_
        -- r19.0 t56 := move  t54
        refine ol_pure rfl (op_move rfl) ?_
        -- r19.1 t10 := assign  t56
        refine ol_pure rfl (op_assign rfl) ?_
        refine ol_nil ?_
        refine pq_then ?_
        refine cw_block ?_
        refine cw_seq ?_
        refine cw_region ?_
        -- r20.0 t58 := move  t5
        refine ol_pure rfl (op_move rfl) ?_
        -- r20.1 t59 := move  t10
        refine ol_pure rfl (op_move rfl) ?_
        -- r20.2 t60 := indexAddr [62] t58 t59
        refine ol_pure rfl (op_indexN sl_62 rfl rfl (by omega) (by assumption)) ?_
        -- r20.3 t61 := load [4] t60
        refine ol_load rfl (op_load1 one_4 rfl (fun w hw => by first | exact hw.gcell (by assumption) | exact hw.gcell0 (by assumption))) hS ?_
        -- r20.4 t57 := assign  t61
        refine ol_pure rfl (op_assign rfl) ?_
        refine ol_nil ?_
        refine pq_then ?_
        refine cw_cond rfl (fun h57 => ?_) (fun h57 => ?_)
        · skip
          try simp only [decide_eq_true_eq, decide_eq_false_iff_not, Bool.not_eq_true', Bool.not_eq_false', Bool.not_eq_eq_eq_not, Bool.not_true, Bool.not_false] at h57
          refine cw_region ?_
          -- r21.0 t62 := move  t9
          refine ol_pure rfl (op_move rfl) ?_
          -- r21.1 t63 := move  t10
          refine ol_pure rfl (op_move rfl) ?_
          -- r21.2 t64 := indexAddr [29] t62 t63
          refine ol_pure rfl (op_indexN sl_29 rfl rfl (by omega) (by assumption)) ?_
          -- r21.3 _ := store [3] t64 C2
          refine ol_step0  (op_storeR (j := 0) (k := i * 1) hS sz_3 rfl rfl rfl rfl (by simp [modelI_len]; omega)) ?_
          clear hS
          rintro _ w hS; (try simp only [List.nil_append, List.cons_append, List.set] at hS)
          rw [fill_set (Value.int .i64) (.int .i64 0) (modelI atoms.length rs) atoms.length i 2 hlt (by rw [hg, if_pos h57])] at hS
          refine ol_nil ?_
          refine pq_in_normal ?_
          refine pq_in_normal ?_
          refine pq_then ?_
          refine cw_region ?_
          -- r24.0 t73 := add t54 C1
          refine ol_pure rfl (op_add rfl rfl (by omega) (by omega)) ?_
          -- r24.1 t54 := move  t73
          refine ol_pure rfl (op_move rfl) ?_
          refine ol_nil ?_
          -- end of round 4 h18f h36f h55t h57t
          refine pq_loop _ _ (by exact ⟨i + 1, rfl, by omega, rfl, hS⟩) ((Sub.cons rfl (Sub.cons rfl (Sub.cons rfl (Sub.cons rfl (Sub.cons rfl Sub.nil)))))) (by omega)
        · skip
          try simp only [decide_eq_true_eq, decide_eq_false_iff_not, Bool.not_eq_true', Bool.not_eq_false', Bool.not_eq_eq_eq_not, Bool.not_true, Bool.not_false] at h57
          refine cw_seq ?_
          refine cw_region ?_
          -- r22.0 t66 := move  t3
          refine ol_pure rfl (op_move rfl) ?_
          -- r22.1 t67 := move  t10
          refine ol_pure rfl (op_move rfl) ?_
          -- r22.2 t68 := indexAddr [62] t66 t67
          refine ol_pure rfl (op_indexN sl_62 rfl rfl (by omega) (by assumption)) ?_
          -- r22.3 t69 := load [4] t68
          refine ol_load rfl (op_load1 one_4 rfl (fun w hw => by first | exact hw.gcell (by assumption) | exact hw.gcell0 (by assumption))) hS ?_
          -- r22.4 t65 := assign  t69
          refine ol_pure rfl (op_assign rfl) ?_
          refine ol_nil ?_
          refine pq_then ?_
          refine cw_cond rfl (fun h65 => ?_) (fun h65 => ?_)
          · skip
            try simp only [decide_eq_true_eq, decide_eq_false_iff_not, Bool.not_eq_true', Bool.not_eq_false', Bool.not_eq_eq_eq_not, Bool.not_true, Bool.not_false] at h65
            refine cw_region ?_
            -- r23.0 t70 := move  t9
            refine ol_pure rfl (op_move rfl) ?_
            -- r23.1 t71 := move  t10
            refine ol_pure rfl (op_move rfl) ?_
            -- r23.2 t72 := indexAddr [29] t70 t71
            refine ol_pure rfl (op_indexN sl_29 rfl rfl (by omega) (by assumption)) ?_
            -- r23.3 _ := store [3] t72 C1
            refine ol_step0  (op_storeR (j := 0) (k := i * 1) hS sz_3 rfl rfl rfl rfl (by simp [modelI_len]; omega)) ?_
            clear hS
            rintro _ w hS; (try simp only [List.nil_append, List.cons_append, List.set] at hS)
            rw [fill_set (Value.int .i64) (.int .i64 0) (modelI atoms.length rs) atoms.length i 1 hlt (by rw [hg, if_neg (by simp [h57]), if_pos h65])] at hS
            refine ol_nil ?_
            refine pq_in_normal ?_
            refine pq_in_normal ?_
            refine pq_then ?_
            refine cw_region ?_
            -- r24.0 t73 := add t54 C1
            refine ol_pure rfl (op_add rfl rfl (by omega) (by omega)) ?_
            -- r24.1 t54 := move  t73
            refine ol_pure rfl (op_move rfl) ?_
            refine ol_nil ?_
            -- end of round 4 h18f h36f h55t h57f h65t
            refine pq_loop _ _ (by exact ⟨i + 1, rfl, by omega, rfl, hS⟩) ((Sub.cons rfl (Sub.cons rfl (Sub.cons rfl (Sub.cons rfl (Sub.cons rfl Sub.nil)))))) (by omega)
          · skip
            try simp only [decide_eq_true_eq, decide_eq_false_iff_not, Bool.not_eq_true', Bool.not_eq_false', Bool.not_eq_eq_eq_not, Bool.not_true, Bool.not_false] at h65
            refine cw_skip ?_
            refine pq_in_normal ?_
            refine pq_in_normal ?_
            refine pq_then ?_
            refine cw_region ?_
            -- r24.0 t73 := add t54 C1
            refine ol_pure rfl (op_add rfl rfl (by omega) (by omega)) ?_
            -- r24.1 t54 := move  t73
            refine ol_pure rfl (op_move rfl) ?_
            refine ol_nil ?_
            -- end of round 4 h18f h36f h55t h57f h65f
            refine pq_loop _ _ (by exact ⟨i + 1, rfl, by omega, rfl, by rw [fill_keep (Value.int .i64) (.int .i64 0) (modelI atoms.length rs) atoms.length i 0 hlt (by rw [hg, if_neg (by simp [h57]), if_neg (by simp [h65])]) rfl] at hS; exact hS⟩) ((Sub.cons rfl (Sub.cons rfl (Sub.cons rfl (Sub.cons rfl (Sub.cons rfl Sub.nil)))))) (by omega)
      · skip
        try simp only [decide_eq_true_eq, decide_eq_false_iff_not, Bool.not_eq_true', Bool.not_eq_false', Bool.not_eq_eq_eq_not, Bool.not_true, Bool.not_false] at h55
        refine cw_exit ?_
        refine pq_exit ?_
        refine pq_exit ?_
        refine pq_in_exit ?_
        refine pq_then ?_
        refine cw_seq ?_
        refine cw_region ?_
        -- r25.0 t74 := move  t9
        refine ol_pure rfl (op_move rfl) ?_
        -- r25.1 t2 := assign  t74
        refine ol_pure rfl (op_assign rfl) ?_
        refine ol_nil ?_
        refine pq_then ?_
        refine cw_ret ?_
        refine pq_ng_ret ?_
        refine ret1 rfl rfl ?_
        -- ret1 h18f h36f h55f
        have hi0 : i = (modelI atoms.length rs).length := by rw [modelI_len]; omega
        have hml : atoms.length = (modelI atoms.length rs).length := by rw [modelI_len]
        rw [hi0, Nat.sub_eq_zero_of_le (by omega), List.replicate_zero, List.append_nil, List.take_length] at hS
        exact hS.rt_row [] (by decide) (Rows.ints (fun x hx => by have := modelI_range hx; omega)) EInt.mono hml
set_option maxRecDepth 100000 in

theorem wfm_Unfounded_1_c (G : GH) (w0 : World) (hG : Holds G w0) (m : List Int) (b : Nat) (vm : Value) (i what : Int) (hb : gcell G ⟨b, 0, none⟩ = some vm) (hm : RSl 1 EInt G vm m) (h0 : 0 ≤ i) :
    Calls Try.prog 45 #[.int .i64 i, .int .i64 what, .pointer (some ⟨b, 0, none⟩)] w0 (Sc w0 (.bool (isB m i what))) := by
  obtain ⟨oM, cM, rfl, hlM, hmM⟩ := hm.elim
  obtain ⟨j, rfl⟩ := Int.eq_ofNat_of_zero_le h0
  refine enter Try.func45 rfl (N := 18) rfl (Nat.le_of_ble_eq_true rfl) ?_
  have hS := SS.init hG
  refine cw_seq ?_
  refine cw_region ?_
  -- r0.0 t5 := assign  Cfalse
  refine ol_pure rfl (op_assign rfl) ?_
  refine ol_nil ?_
  refine pq_then ?_
  refine cw_seq ?_
  refine cw_region ?_
  -- r1.0 t6 := move  t0
  refine ol_pure rfl (op_move rfl) ?_
  -- r1.1 t7 := load [29] t2
  refine ol_load rfl (op_load1 one_29 rfl (fun w hw => by first | exact hw.gcell (by assumption) | exact hw.gcell0 (by assumption))) hS ?_
  -- r1.2 t8 := call len t7
  refine ol_pure rfl (op_len sl_29 rfl rfl) ?_
  -- r1.3 t9 := lss t6 t8
  refine ol_pure rfl (op_lss rfl rfl) ?_
  -- r1.4 t10 := move  t9
  refine ol_pure rfl (op_move rfl) ?_
  refine ol_split (fun h10 => ?_) (fun h10 => ?_)
  · skip
    try simp only [decide_eq_true_eq, decide_eq_false_iff_not, Bool.not_eq_true', Bool.not_eq_false', Bool.not_eq_eq_eq_not, Bool.not_true, Bool.not_false] at h10
    have hj : j < m.length := by omega
    obtain ⟨hoa, hc, hbd⟩ := hm.int hj
    -- r1.5 t11 := load [29] t2 ?4=True
    refine ol_guard_load rfl rfl rfl (op_load1 one_29 rfl (fun w hw => by first | exact hw.gcell (by assumption) | exact hw.gcell0 (by assumption))) hS ?_
    -- r1.6 t12 := move  t0 ?4=True
    refine ol_guard_pure rfl rfl rfl (op_move rfl) ?_
    -- r1.7 t13 := indexAddr [29] t11 t12 ?4=True
    refine ol_guard_pure rfl rfl rfl (op_indexN sl_29 rfl rfl (by omega) (by assumption)) ?_
    -- r1.8 t14 := load [3] t13 ?4=True
    refine ol_guard_load rfl rfl rfl (op_load1 one_3 rfl (fun w hw => by first | exact hw.gcell (by assumption) | exact hw.gcell0 (by assumption))) hS ?_
    -- r1.9 t15 := move  t1 ?4=True
    refine ol_guard_pure rfl rfl rfl (op_move rfl) ?_
    -- r1.10 t16 := eql t14 t15 ?4=True
    refine ol_guard_pure rfl rfl rfl (op_eql rfl rfl) ?_
    -- r1.11 t17 := pick  t10 t16 Cfalse
    refine ol_pure rfl (op_pick_t rfl rfl) ?_
    -- r1.12 t5 := assign  t17
    refine ol_pure rfl (op_assign rfl) ?_
    refine ol_nil ?_
    refine pq_then ?_
    refine cw_ret ?_
    refine ret1 rfl rfl ?_
    -- ret1 h10t
    exact hS.sc_b (by simp [isB, hj])
  · skip
    try simp only [decide_eq_true_eq, decide_eq_false_iff_not, Bool.not_eq_true', Bool.not_eq_false', Bool.not_eq_eq_eq_not, Bool.not_true, Bool.not_false] at h10
    refine ol_guard_no rfl rfl rfl rfl ?_
    refine ol_guard_no rfl rfl rfl rfl ?_
    refine ol_guard_no rfl rfl rfl rfl ?_
    refine ol_guard_no rfl rfl rfl rfl ?_
    refine ol_guard_no rfl rfl rfl rfl ?_
    refine ol_guard_no rfl rfl rfl rfl ?_
    -- r1.11 t17 := pick  t10 t16 Cfalse
    refine ol_pure rfl (op_pick_f rfl rfl) ?_
    -- r1.12 t5 := assign  t17
    refine ol_pure rfl (op_assign rfl) ?_
    refine ol_nil ?_
    refine pq_then ?_
    refine cw_ret ?_
    refine ret1 rfl rfl ?_
    -- ret1 h10f
    have hj : m.length ≤ j := by omega
    exact hS.sc_b (by simp [isB, hj])
set_option maxRecDepth 100000 in

theorem wfm_Unfounded_2_c (G : GH) (w0 : World) (hG : Holds G w0) (r : Rule) (p q vm : Value) (b bm : Nat) (m : List Int) (h1 : RSl 1 EInt G p r.pos) (h2 : RSl 1 EInt G q r.neg) (hb : gcell G ⟨b, 0, none⟩ = some (.func (.func 45) #[] #[.pointer (some ⟨bm, 0, none⟩)])) (hbm : gcell G ⟨bm, 0, none⟩ = some vm) (hm : RSl 1 EInt G vm m) (hp0 : ∀ x ∈ r.pos, 0 ≤ x) (hn0 : ∀ x ∈ r.neg, 0 ≤ x) :
    Calls Try.prog 47 #[.agg #[.int .i64 r.head, p, q], .pointer (some ⟨b, 0, none⟩)] w0 (Sc w0 (.bool (!failsB r m))) := by
  obtain ⟨op, cp, rfl, hlp, hpm⟩ := h1.elim
  obtain ⟨oq, cq, rfl, hlq, hqm⟩ := h2.elim
  have hle1 := h1.le
  have hle2 := h2.le
  refine enter Try.func47 rfl (N := 30) rfl (Nat.le_of_ble_eq_true rfl) ?_
  have hS := SS.init hG
  refine cw_seq ?_
  refine cw_region ?_
  -- r0.0 t2 := box [48] t0
  refine ol_step rfl (op_box hS rfl rfl) ?_
  clear hS
  rintro _ w ⟨b2, rfl, hS⟩
  -- r0.1 t3 := assign  Cfalse
  refine ol_pure rfl (op_assign rfl) ?_
  refine ol_nil ?_
  refine pq_then ?_
  refine cw_seq ?_
  refine cw_seq ?_
  refine cw_region ?_
  -- r1.0 t8 := fieldAddr [48, 1] t2
  refine ol_pure rfl (op_fieldAddr fld_48_1 rfl) ?_
  -- r1.1 t9 := load [29] t8
  refine ol_load rfl (op_load1 one_29 rfl (fun w hw => (hw.bcell (i := 0) rfl).trans rfl)) hS ?_
  -- r1.2 t10 := call len t9
  refine ol_pure rfl (op_len sl_29 rfl rfl) ?_
  -- r1.3 t11 := move  C0
  refine ol_pure rfl (op_move rfl) ?_
  refine ol_nil ?_
  refine pq_then ?_
  refine cw_block ?_
  refine cw_loop (fun e w n => ∃ k : Nat, e = [(1, .pointer (some ⟨b, 0, none⟩)), (2, .pointer (some ⟨b2, 0, none⟩)), (9, .slice op r.pos.length cp), (10, .int .i64 (r.pos.length : Nat)), (11, .int .i64 (k : Nat))] ∧ k ≤ r.pos.length ∧ n = r.pos.length - k ∧ (r.pos.take k).any (isB m · 0) = false ∧ SS G w0 G [.blk b2 48 [.int .i64 r.head, .slice op r.pos.length cp, .slice oq r.neg.length cq]] w) _ _ (by exact ⟨0, rfl, Nat.zero_le _, rfl, rfl, hS⟩) ((Sub.cons rfl (Sub.cons rfl (Sub.cons rfl (Sub.cons rfl (Sub.cons rfl Sub.nil)))))) ?_
  clear hS
  rintro e w n ⟨k, rfl, hk, rfl, hp, hS⟩
  refine cw_seq ?_
  refine cw_region ?_
  -- r2.0 t12 := lss t11 t10
  refine ol_pure rfl (op_lss rfl rfl) ?_
  refine ol_nil ?_
  refine pq_then ?_
  refine cw_seq ?_
  refine cw_cond rfl (fun h12 => ?_) (fun h12 => ?_)
  · skip
    try simp only [decide_eq_true_eq, decide_eq_false_iff_not, Bool.not_eq_true', Bool.not_eq_false', Bool.not_eq_eq_eq_not, Bool.not_true, Bool.not_false] at h12
    have hlt : k < r.pos.length := by omega
    obtain ⟨hoa, hc, hbd⟩ := h1.int hlt
    refine cw_skip ?_
    refine pq_then ?_
    refine cw_seq ?_
    refine cw_block ?_
    refine cw_seq ?_
    refine cw_region ?_
    -- r3.0 t13 := indexAddr [29] t9 t11
    refine ol_pure rfl (op_indexN sl_29 rfl rfl (by omega) (by assumption)) ?_
    -- r3.1 t14 := load [3] t13
    refine ol_load rfl (op_load1 one_3 rfl (fun w hw => by first | exact hw.gcell (by assumption) | exact hw.gcell0 (by assumption))) hS ?_
    -- r3.2 t5 := assign  t14
    refine ol_pure rfl (op_assign rfl) ?_
    refine ol_nil ?_
    refine pq_then ?_
    refine cw_seq ?_
    refine cw_region ?_
    -- r4.0 t15 := load [75] t1
    refine ol_load rfl (op_load1 one_75 rfl (fun w hw => by first | exact hw.gcell (by assumption) | exact hw.gcell0 (by assumption))) hS ?_
    -- r4.1 t16 := move  t5
    refine ol_pure rfl (op_move rfl) ?_
    -- r4.2 t17 := call t15 t16 C0
    refine ol_step rfl (op_callv_sc hS cf_45 rfl rfl (wfm_Unfounded_1_c G _ hS.hold m bm _ _ 0 hbm hm (hp0 _ (List.getElem_mem hlt)))) ?_
    clear hS
    rintro _ w ⟨rfl, hS⟩
    refine ol_nil ?_
    refine pq_then ?_
    refine cw_cond rfl (fun h17 => ?_) (fun h17 => ?_)
    · skip
      try simp only [decide_eq_true_eq, decide_eq_false_iff_not, Bool.not_eq_true', Bool.not_eq_false', Bool.not_eq_eq_eq_not, Bool.not_true, Bool.not_false] at h17
      refine cw_seq ?_
      refine cw_region ?_
      -- r5.0 t3 := assign  Cfalse
      refine ol_pure rfl (op_assign rfl) ?_
      refine ol_nil ?_
      refine pq_then ?_
      refine cw_ret ?_
      refine pq_in_ret ?_
      refine pq_ret ?_
      refine pq_ret ?_
      refine pq_in_ret ?_
      refine pq_ret ?_
      refine ret1 rfl rfl ?_
      -- ret1 h12t h17t
      exact hS.sc_b (by rw [failsB, Pl.any_true_at (isB m · 0) _ _ hlt h17]; rfl)
    · skip
      try simp only [decide_eq_true_eq, decide_eq_false_iff_not, Bool.not_eq_true', Bool.not_eq_false', Bool.not_eq_eq_eq_not, Bool.not_true, Bool.not_false] at h17
      refine cw_skip ?_
      refine pq_in_normal ?_
      refine pq_then ?_
      refine cw_region ?_
      -- r6.0 t18 := add t11 C1
      refine ol_pure rfl (op_add rfl rfl (by omega) (by omega)) ?_
      -- r6.1 t11 := move  t18
      refine ol_pure rfl (op_move rfl) ?_
      refine ol_nil ?_
      -- end of round 1 h12t h17f
      refine pq_loop _ _ (by exact ⟨k + 1, rfl, by omega, rfl, by rw [Pl.any_take_succ _ _ _ hlt, hp, h17]; rfl, hS⟩) ((Sub.cons rfl (Sub.cons rfl (Sub.cons rfl (Sub.cons rfl (Sub.cons rfl Sub.nil)))))) (by omega)
  · skip
    try simp only [decide_eq_true_eq, decide_eq_false_iff_not, Bool.not_eq_true', Bool.not_eq_false', Bool.not_eq_eq_eq_not, Bool.not_true, Bool.not_false] at h12
    have hpos := Pl.any_of_take _ _ _ (show r.pos.length ≤ k by omega) hp
    clear hp hk h12
    refine cw_exit ?_
    refine pq_exit ?_
    refine pq_exit ?_
    refine pq_in_exit ?_
    refine pq_then ?_
    refine cw_seq ?_
    refine cw_seq ?_
    refine cw_region ?_
    -- r7.0 t19 := fieldAddr [48, 2] t2
    refine ol_pure rfl (op_fieldAddr fld_48_2 rfl) ?_
    -- r7.1 t20 := load [29] t19
    refine ol_load rfl (op_load1 one_29 rfl (fun w hw => (hw.bcell (i := 0) rfl).trans rfl)) hS ?_
    -- r7.2 t21 := call len t20
    refine ol_pure rfl (op_len sl_29 rfl rfl) ?_
    -- r7.3 t22 := move  C0
    refine ol_pure rfl (op_move rfl) ?_
    refine ol_nil ?_
    refine pq_then ?_
    refine cw_block ?_
    refine cw_loop (fun e w n => ∃ k : Nat, e = [(1, .pointer (some ⟨b, 0, none⟩)), (20, .slice oq r.neg.length cq), (21, .int .i64 (r.neg.length : Nat)), (22, .int .i64 (k : Nat))] ∧ k ≤ r.neg.length ∧ n = r.neg.length - k ∧ (r.neg.take k).any (isB m · 2) = false ∧ SS G w0 G [.blk b2 48 [.int .i64 r.head, .slice op r.pos.length cp, .slice oq r.neg.length cq]] w) _ _ (by exact ⟨0, rfl, Nat.zero_le _, rfl, rfl, hS⟩) ((Sub.cons rfl (Sub.cons rfl (Sub.cons rfl (Sub.cons rfl Sub.nil))))) ?_
    clear hS
    rintro e w n ⟨k, rfl, hk2, rfl, hp2, hS⟩
    refine cw_seq ?_
    refine cw_region ?_
    -- r8.0 t23 := lss t22 t21
    refine ol_pure rfl (op_lss rfl rfl) ?_
    refine ol_nil ?_
    refine pq_then ?_
    refine cw_seq ?_
    refine cw_cond rfl (fun h23 => ?_) (fun h23 => ?_)
    · skip
      try simp only [decide_eq_true_eq, decide_eq_false_iff_not, Bool.not_eq_true', Bool.not_eq_false', Bool.not_eq_eq_eq_not, Bool.not_true, Bool.not_false] at h23
      have hlt : k < r.neg.length := by omega
      obtain ⟨hoa, hc, hbd⟩ := h2.int hlt
      refine cw_skip ?_
      refine pq_then ?_
      refine cw_seq ?_
      refine cw_block ?_
      refine cw_seq ?_
      refine cw_region ?_
      -- r9.0 t24 := indexAddr [29] t20 t22
      refine ol_pure rfl (op_indexN sl_29 rfl rfl (by omega) (by assumption)) ?_
      -- r9.1 t25 := load [3] t24
      refine ol_load rfl (op_load1 one_3 rfl (fun w hw => by first | exact hw.gcell (by assumption) | exact hw.gcell0 (by assumption))) hS ?_
      -- r9.2 t7 := assign  t25
      refine ol_pure rfl (op_assign rfl) ?_
      refine ol_nil ?_
      refine pq_then ?_
      refine cw_seq ?_
      refine cw_region ?_
      -- r10.0 t26 := load [75] t1
      refine ol_load rfl (op_load1 one_75 rfl (fun w hw => by first | exact hw.gcell (by assumption) | exact hw.gcell0 (by assumption))) hS ?_
      -- r10.1 t27 := move  t7
      refine ol_pure rfl (op_move rfl) ?_
      -- r10.2 t28 := call t26 t27 C2
      refine ol_step rfl (op_callv_sc hS cf_45 rfl rfl (wfm_Unfounded_1_c G _ hS.hold m bm _ _ 2 hbm hm (hn0 _ (List.getElem_mem hlt)))) ?_
      clear hS
      rintro _ w ⟨rfl, hS⟩
      refine ol_nil ?_
      refine pq_then ?_
      refine cw_cond rfl (fun h28 => ?_) (fun h28 => ?_)
      · skip
        try simp only [decide_eq_true_eq, decide_eq_false_iff_not, Bool.not_eq_true', Bool.not_eq_false', Bool.not_eq_eq_eq_not, Bool.not_true, Bool.not_false] at h28
        refine cw_seq ?_
        refine cw_region ?_
        -- r11.0 t3 := assign  Cfalse
        refine ol_pure rfl (op_assign rfl) ?_
        refine ol_nil ?_
        refine pq_then ?_
        refine cw_ret ?_
        refine pq_in_ret ?_
        refine pq_ret ?_
        refine pq_ret ?_
        refine pq_in_ret ?_
        refine pq_ret ?_
        refine ret1 rfl rfl ?_
        -- ret2 h12f h23t h28t
        exact hS.sc_b (by rw [failsB, Pl.any_true_at (isB m · 2) _ _ hlt h28, Bool.or_true]; rfl)
      · skip
        try simp only [decide_eq_true_eq, decide_eq_false_iff_not, Bool.not_eq_true', Bool.not_eq_false', Bool.not_eq_eq_eq_not, Bool.not_true, Bool.not_false] at h28
        refine cw_skip ?_
        refine pq_in_normal ?_
        refine pq_then ?_
        refine cw_region ?_
        -- r12.0 t29 := add t22 C1
        refine ol_pure rfl (op_add rfl rfl (by omega) (by omega)) ?_
        -- r12.1 t22 := move  t29
        refine ol_pure rfl (op_move rfl) ?_
        refine ol_nil ?_
        -- end of round 2 h12f h23t h28f
        refine pq_loop _ _ (by exact ⟨k + 1, rfl, by omega, rfl, by rw [Pl.any_take_succ _ _ _ hlt, hp2, h28]; rfl, hS⟩) ((Sub.cons rfl (Sub.cons rfl (Sub.cons rfl (Sub.cons rfl Sub.nil))))) (by omega)
    · skip
      try simp only [decide_eq_true_eq, decide_eq_false_iff_not, Bool.not_eq_true', Bool.not_eq_false', Bool.not_eq_eq_eq_not, Bool.not_true, Bool.not_false] at h23
      refine cw_exit ?_
      refine pq_exit ?_
      refine pq_exit ?_
      refine pq_in_exit ?_
      refine pq_then ?_
      refine cw_seq ?_
      refine cw_region ?_
      -- r13.0 t3 := assign  Ctrue
      refine ol_pure rfl (op_assign rfl) ?_
      refine ol_nil ?_
      refine pq_then ?_
      refine cw_ret ?_
      refine ret1 rfl rfl ?_
      -- ret3 h12f h23f
      exact hS.sc_b (by rw [failsB, hpos, Pl.any_of_take _ _ _ (show r.neg.length ≤ k by omega) hp2]; rfl)
set_option maxRecDepth 100000 in
set_option maxHeartbeats 400000 in

theorem wfm_Unfounded_c (G : GH) (w0 : World) (hG : Holds G w0) {α : Type} {E : ER α} (hE : EMono E) (va vr : Value) (atoms : List α) (rs : List Rule) (h1 : RSl 1 E G va atoms) (h2 : RSl 3 ERule G vr rs) (hP : PrOk atoms.length rs) (vm : Value) (m : List Int) (h3 : RSl 1 EInt G vm m) :
    Calls Try.prog 26 #[.agg #[va, vr], vm] w0 (Rt noG w0 (fun G v => RSl 1 EInt G v (unfI atoms.length rs m))) := by
  obtain ⟨oA, cA, rfl, hlA, hmA⟩ := h1.elim
  obtain ⟨oR, cR, rfl, hlR, hmR⟩ := h2.elim
  have hPn := hP.n_le
  have hPm := hP.m_le
  obtain ⟨oM, cM, rfl, hlM, hmM⟩ := h3.elim
  refine enter Try.func26 rfl (N := 29) rfl (Nat.le_of_ble_eq_true rfl) ?_
  have hS := SS.init hG
  refine cw_seq ?_
  refine cw_region ?_
  -- r0.0 t2 := box [25] t0
  refine ol_step rfl (op_box hS rfl rfl) ?_
  clear hS
  rintro _ w ⟨b2, rfl, hS⟩
  -- r0.1 t3 := box [29] t1
  refine ol_step rfl (op_box hS rfl rfl) ?_
  clear hS
  rintro _ w ⟨b3, rfl, hS⟩
  -- r0.2 t4 := assign  C(slice (none Addr) 0 0)
  refine ol_pure rfl (op_assign rfl) ?_
  refine ol_nil ?_
  refine pq_then ?_
  refine cw_seq ?_
  refine cw_region ?_
  -- r1.0 t10 := makeFunc (func 45) |t3
  refine ol_pure rfl (op_makeFunc rfl rfl) ?_
  -- r1.1 t5 := alloc [75] 
  refine ol_step rfl (op_alloc hS el_75 rfl) ?_
  clear hS
  rintro _ w ⟨b5, rfl, hS⟩
  -- r1.2 _ := store [75] t5 t10
  refine ol_step0  (op_storeB0 (j := 0) hS sz_75 rfl rfl rfl rfl) ?_
  clear hS
  rintro _ w hS; (try simp only [List.nil_append, List.cons_append, List.set] at hS)
  refine ol_nil ?_
  refine pq_then ?_
  refine cw_seq ?_
  refine cw_region ?_
  -- r2.0 t11 := load [25] t2
  refine ol_load rfl (op_loadN agg_25 rfl (by rfl) (fun w hw k u hk => (hw.bcell (i := 2) rfl).trans hk)) hS ?_
  -- r2.1 t12 := makeFunc (func 47) |t5
  refine ol_pure rfl (op_makeFunc rfl rfl) ?_
  -- r2.2 t13 := call f46 t11 t12
  refine ol_step rfl (op_call_fr hS cf_46 rfl (wfm_from_c G _ hS.hold _ _ atoms rs h1 h2 (fun r => !failsB r m) 47 [.pointer (some ⟨b5, 0, none⟩)] cf_47 (fun w' hb r hr p q hp hq => wfm_Unfounded_2_c (fullG w') w' (Holds.full _) r p q _ b5 b3 m hp hq ((hS.kept hb).bcell0 (i := 0) rfl) ((hS.kept hb).bcell0 (i := 1) rfl) (h3.mono EInt.mono (hS.kept hb).hold.le_full) (fun x hx => ((hP.rule r hr).1.2.1 x hx).1) (fun x hx => ((hP.rule r hr).1.2.2 x hx).1)) hP.n_le hP.m_le hP.rule)) ?_
  clear hS
  rintro v13 w ⟨F13, G1, hR13, hF13, hf13, hl13, hS⟩
  obtain ⟨oF, cF, rfl, hlF, hmF⟩ := hR13.elimN (leastB_len _ _)
  have hFo : RSl 1 EBool G1 (.slice oF atoms.length cF) (foundB atoms.length rs m) := hR13.mono EBool.mono hf13
  -- r2.3 t6 := assign  t13
  refine ol_pure rfl (op_assign rfl) ?_
  refine ol_nil ?_
  refine pq_then ?_
  refine cw_seq ?_
  refine cw_region ?_
  -- r3.0 t7 := assign  C(slice (none Addr) 0 0)
  refine ol_pure rfl (op_assign rfl) ?_
  refine ol_nil ?_
  refine pq_then ?_
  refine cw_seq ?_
  refine cw_seq ?_
  refine cw_region ?_
  -- r4.0 t14 := move  t6
  refine ol_pure rfl (op_move rfl) ?_
  -- r4.1 t15 := call len t14
  refine ol_pure rfl (op_len sl_62 rfl rfl) ?_
  -- r4.2 t16 := move  C0
  refine ol_pure rfl (op_move rfl) ?_
  refine ol_nil ?_
  refine pq_then ?_
  refine cw_block ?_
  refine cw_loop (fun e w n => ∃ k o7 l7 c7, e = [(7, .slice o7 l7 c7), (14, .slice oF atoms.length cF), (15, .int .i64 (atoms.length : Nat)), (16, .int .i64 (k : Nat))] ∧ k ≤ atoms.length ∧ n = atoms.length - k ∧ l7 = (pickI (fun i => !atB (foundB atoms.length rs m) (i : Int)) k).length ∧ SS G w0 G1 (.row o7 l7 c7 3 1 ((pickI (fun i => !atB (foundB atoms.length rs m) (i : Int)) k).map (Value.int .i64)) :: [.blk b5 75 [.func (.func 45) #[] #[.pointer (some ⟨b3, 0, none⟩)]], .blk b3 29 [.slice oM m.length cM], .blk b2 25 [.slice oA atoms.length cA, .slice oR rs.length cR]]) w) _ _ (by exact ⟨0, none, 0, 0, rfl, Nat.zero_le _, rfl, rfl, hS.nil 3 1⟩) ((Sub.cons rfl (Sub.cons rfl (Sub.cons rfl (Sub.cons rfl Sub.nil))))) ?_
  clear hS
  rintro e w n ⟨k, o7, l7, c7, rfl, hk, rfl, hl7, hS⟩
  refine cw_seq ?_
  refine cw_region ?_
  -- r5.0 t17 := lss t16 t15
  refine ol_pure rfl (op_lss rfl rfl) ?_
  refine ol_nil ?_
  refine pq_then ?_
  refine cw_seq ?_
  refine cw_cond rfl (fun h17 => ?_) (fun h17 => ?_)
  · skip
    try simp only [decide_eq_true_eq, decide_eq_false_iff_not, Bool.not_eq_true', Bool.not_eq_false', Bool.not_eq_eq_eq_not, Bool.not_true, Bool.not_false] at h17
    have hlt : k < atoms.length := by omega
    have hF' : k < (foundB atoms.length rs m).length := by rw [foundB_len]; exact hlt
    obtain ⟨hoF, hcF⟩ := hFo.bool hF'
    have hpl := pickI_len (fun i => !atB (foundB atoms.length rs m) (i : Int)) k
    have hat : atB (foundB atoms.length rs m) (k : Int) = (foundB atoms.length rs m)[k] := by rw [atB_nat]; simp [hF']
    refine cw_skip ?_
    refine pq_then ?_
    refine cw_seq ?_
    refine cw_block ?_
    refine cw_seq ?_
    refine cw_region ?_
    -- r6.0 t18 := move  t16
    refine ol_pure rfl (op_move rfl) ?_
    -- r6.1 t19 := indexAddr [62] t14 t16
    refine ol_pure rfl (op_indexN sl_62 rfl rfl (by omega) (by assumption)) ?_
    -- r6.2 t20 := load [4] t19
    refine ol_load rfl (op_load1 one_4 rfl (fun w hw => by first | exact hw.gcell (by assumption) | exact hw.gcell0 (by assumption))) hS ?_
    -- r6.3 t8 := assign  t18
    refine ol_pure rfl (op_assign rfl) ?_
    -- r6.4 t9 := assign  t20
    refine ol_pure rfl (op_assign rfl) ?_
    refine ol_nil ?_
    refine pq_then ?_
    refine cw_seq ?_
    refine cw_region ?_
    -- r7.0 t21 := move  t9
    refine ol_pure rfl (op_move rfl) ?_
    -- r7.1 t22 := not t21
    refine ol_pure rfl (op_not rfl) ?_
    refine ol_nil ?_
    refine pq_then ?_
    refine cw_cond rfl (fun h22 => ?_) (fun h22 => ?_)
    · skip
      try simp only [decide_eq_true_eq, decide_eq_false_iff_not, Bool.not_eq_true', Bool.not_eq_false', Bool.not_eq_eq_eq_not, Bool.not_true, Bool.not_false] at h22
      refine cw_region ?_
      -- r8.0 t23 := move  t7
      refine ol_pure rfl (op_move rfl) ?_
      -- r8.1 t24 := move  t8
      refine ol_pure rfl (op_move rfl) ?_
      -- r8.2 t25 := buildSlice [29, 1] 0:t24
      refine ol_step rfl (op_buildSlice (el := 3) (is := [0]) (xs := [.tmp 24]) (sz := 1) (cs := [.int .i64 (k : Nat)]) hS rfl rfl (fun w => by kernel_rfl) rfl (by decide)) ?_
      clear hS
      rintro _ w ⟨s25, rfl, hS⟩
      -- r8.3 t26 := call append t23 t25
      refine ol_step rfl (op_append (j := 1) hS sl_29 el_3 rfl rfl rfl rfl rfl rfl (by decide) (hS.news (j := 0) rfl) (by simp [Value.oneCell']) (by omega) (by unfold maxLen; omega)) ?_
      clear hS
      rintro _ w ⟨o7n, c_o7n, rfl, hS⟩; (try simp only [List.nil_append, List.cons_append, List.set] at hS); replace hS := SS.drop [] hS; (try simp only [List.nil_append, List.cons_append] at hS)
      -- r8.4 t7 := assign  t26
      refine ol_pure rfl (op_assign rfl) ?_
      refine ol_nil ?_
      refine pq_in_normal ?_
      refine pq_then ?_
      refine cw_region ?_
      -- r9.0 t27 := add t16 C1
      refine ol_pure rfl (op_add rfl rfl (by omega) (by omega)) ?_
      -- r9.1 t16 := move  t27
      refine ol_pure rfl (op_move rfl) ?_
      refine ol_nil ?_
      -- end of round 1 h17t h22t
      refine pq_loop _ _ (by exact ⟨k + 1, o7n, l7 + 1, c_o7n, rfl, by omega, rfl, by rw [pickI_t (by simp [hat, h22])]; simp [hl7], by rw [pickI_t (by simp [hat, h22])]; simpa using hS⟩) ((Sub.cons rfl (Sub.cons rfl (Sub.cons rfl (Sub.cons rfl Sub.nil))))) (by omega)
    · skip
      try simp only [decide_eq_true_eq, decide_eq_false_iff_not, Bool.not_eq_true', Bool.not_eq_false', Bool.not_eq_eq_eq_not, Bool.not_true, Bool.not_false] at h22
      refine cw_skip ?_
      refine pq_in_normal ?_
      refine pq_then ?_
      refine cw_region ?_
      -- r9.0 t27 := add t16 C1
      refine ol_pure rfl (op_add rfl rfl (by omega) (by omega)) ?_
      -- r9.1 t16 := move  t27
      refine ol_pure rfl (op_move rfl) ?_
      refine ol_nil ?_
      -- end of round 1 h17t h22f
      refine pq_loop _ _ (by exact ⟨k + 1, o7, l7, c7, rfl, by omega, rfl, by rw [pickI_f (by simp [hat, h22])]; exact hl7, by rw [pickI_f (by simp [hat, h22])]; exact hS⟩) ((Sub.cons rfl (Sub.cons rfl (Sub.cons rfl (Sub.cons rfl Sub.nil))))) (by omega)
  · skip
    try simp only [decide_eq_true_eq, decide_eq_false_iff_not, Bool.not_eq_true', Bool.not_eq_false', Bool.not_eq_eq_eq_not, Bool.not_true, Bool.not_false] at h17
    refine cw_exit ?_
    refine pq_exit ?_
    refine pq_exit ?_
    refine pq_in_exit ?_
    refine pq_then ?_
    refine cw_seq ?_
    refine cw_region ?_
    -- r10.0 t28 := move  t7
    refine ol_pure rfl (op_move rfl) ?_
    -- r10.1 t4 := assign  t28
    refine ol_pure rfl (op_assign rfl) ?_
    refine ol_nil ?_
    refine pq_then ?_
    refine cw_ret ?_
    refine ret1 rfl rfl ?_
    -- ret1 h17f
    have hk0 : k = atoms.length := by omega
    subst hk0
    exact hS.rt_row [] (by decide) (Rows.ints (fun x hx => by have := pickI_range hx; omega)) EInt.mono hl7
end Go.Proofs.Ytbpmkidaoemebaa.K
