/-
  Terms as rows of cells.
  No condition but the premises that each theorem names.
-/
import Derived.Test.YtbpmkidaoemebaaBase
import Derived.Test.YtbpmkidaoemebaaPlt
namespace Go.Proofs.Ytbpmkidaoemebaa.K
open Go Go.RowKit
set_option linter.unusedVariables false
set_option linter.unusedSimpArgs false

open Pl
def ECell : ER Cell := fun _ cs c => cs = [.int .i64 c.kind, .string c.name, .int .i64 c.n] ∧ (-9223372036854775808 ≤ c.kind ∧ c.kind ≤ 9223372036854775807) ∧ (-9223372036854775808 ≤ c.n ∧ c.n ≤ 9223372036854775807) ∧ c.name.size ≤ 9223372036854775807
theorem ECell.mono : EMono ECell := fun _ _ _ _ _ h => h
abbrev EAtom : ER (List Cell) := ESl 3 ECell
theorem EAtom.mono : EMono EAtom := ESl.mono ECell.mono
theorem RSl.cellAt {G : GH} {oa : Option Addr} {n c : Nat} {t : List Cell} (h : RSl 3 ECell G (.slice oa n c) t) {i : Nat} (hi : i < t.length) :
    oa.isSome = true ∧ ((-9223372036854775808 ≤ t[i].kind ∧ t[i].kind ≤ 9223372036854775807) ∧ (-9223372036854775808 ≤ t[i].n ∧ t[i].n ≤ 9223372036854775807) ∧ t[i].name.size ≤ 9223372036854775807) ∧ (∀ (k : Nat) (u : Value), [Value.int .i64 t[i].kind, .string t[i].name, .int .i64 t[i].n][k]? = some u → gcell G ((elA oa (i * 3)).add k) = some u) := by
  obtain ⟨h1, cs, _, ⟨rfl, h3, h4⟩, h5⟩ := h.el hi
  exact ⟨h1, ⟨h3, h4⟩, h5⟩
theorem RSl.slAt {α : Type} {sz : Nat} {E : ER α} {G : GH} {oa : Option Addr} {n c : Nat} {l : List (List α)} (h : RSl 1 (ESl sz E) G (.slice oa n c) l) {i : Nat} (hi : i < l.length) :
    oa.isSome = true ∧ ∃ ob d, gcell G (elA oa (i * 1)) = some (.slice ob l[i].length d) ∧ RSl sz E G (.slice ob l[i].length d) l[i] ∧ l[i].length ≤ d ∧ d ≤ maxLen := by
  obtain ⟨h1, cs, _, ⟨v, rfl, hv⟩, h5⟩ := h.el hi
  obtain ⟨ob, d, rfl, h6, h7⟩ := hv.elim
  have h8 := h5 0 _ rfl
  rw [add_zero''] at h8
  exact ⟨h1, ob, d, h8, hv, h6, h7⟩
theorem varsI_mem : ∀ (t : List Cell) (k : Nat) (x : Int), x ∈ varsI (t.take k) → ∃ c ∈ t, x = c.n
  | t, 0, x, h => by simp [varsI] at h
  | t, k + 1, x, h => by
    by_cases hk : k < t.length
    · rw [varsI_succ hk] at h
      split at h
      · rcases List.mem_append.1 h with h | h
        · exact varsI_mem t k x h
        · exact ⟨t[k], List.getElem_mem hk, by simpa using h⟩
      · exact varsI_mem t k x h
    · have h2 : t.take (k + 1) = t.take k := by rw [List.take_of_length_le (by omega), List.take_of_length_le (by omega)]
      rw [h2] at h
      exact varsI_mem t k x h
theorem RSl.nAll {G : GH} {v : Value} {t : List Cell} (h : RSl 3 ECell G v t) : ∀ (k : Nat) (x : Int), x ∈ varsI (t.take k) → -9223372036854775808 ≤ x ∧ x ≤ 9223372036854775807 := fun k x hx => by
  obtain ⟨c, hc, rfl⟩ := varsI_mem t k x hx
  obtain ⟨oa, cc, rfl, _, _⟩ := h.elim
  obtain ⟨i, hi, rfl⟩ := List.getElem_of_mem hc
  exact (h.cellAt hi).2.1.2.1
theorem bytesAt {s : ByteArray} {k : Nat} (h : k < s.size) (h' : k < s.data.toList.length) : s.data.toList[k] = s[k]'h := by
  simp
  rfl

set_option maxRecDepth 100000 in

theorem R01_name_c (G : GH) (w0 : World) (hG : Holds G w0) (s : ByteArray) (hs : s.size ≤ 9223372036854775807) :
    Calls Try.prog 78 #[.string s] w0 (Sc w0 (.bool (nameB s))) := by
  refine enter Try.func78 rfl (N := 34) rfl (Nat.le_of_ble_eq_true rfl) ?_
  have hS := SS.init hG
  refine cw_seq ?_
  refine cw_region ?_
  -- r0.0 t2 := assign  Cfalse
  refine ol_pure rfl (op_assign rfl) ?_
  refine ol_nil ?_
  refine pq_then ?_
  refine cw_seq ?_
  refine cw_seq ?_
  refine cw_region ?_
  -- r1.0 t3 := assign  C0
  refine ol_pure rfl (op_assign rfl) ?_
  refine ol_nil ?_
  refine pq_then ?_
  refine cw_block ?_
  refine cw_loop (fun e w n => ∃ k : Nat, e = [(0, .string s), (3, .int .i64 (k : Nat))] ∧ k ≤ s.size ∧ n = s.size - k ∧ (s.data.toList.take k).any byteBad = false ∧ SS G w0 G [] w) _ _ (by exact ⟨0, rfl, Nat.zero_le _, rfl, rfl, hS⟩) ((Sub.cons rfl (Sub.cons rfl Sub.nil))) ?_
  clear hS
  rintro e w n ⟨k, rfl, hk, rfl, hp, hS⟩
  refine cw_seq ?_
  refine cw_seq ?_
  refine cw_region ?_
  -- r2.0 t4 := move  t3
  refine ol_pure rfl (op_move rfl) ?_
  -- r2.1 t5 := move  t0
  refine ol_pure rfl (op_move rfl) ?_
  -- r2.2 t6 := call len t5
  refine ol_pure rfl (op_lenS Try.underlying9 rfl rfl) ?_
  -- r2.3 t7 := lss t4 t6
  refine ol_pure rfl (op_lss rfl rfl) ?_
  refine ol_nil ?_
  refine pq_then ?_
  refine cw_cond rfl (fun h7 => ?_) (fun h7 => ?_)
  · skip
    try simp only [decide_eq_true_eq, decide_eq_false_iff_not, Bool.not_eq_true', Bool.not_eq_false', Bool.not_eq_eq_eq_not, Bool.not_true, Bool.not_false] at h7
    have hlt : k < s.size := by omega
    have hlt' : k < s.data.toList.length := by simpa using hlt
    have hsk := bytesAt hlt hlt'
    refine cw_skip ?_
    refine pq_then ?_
    refine cw_seq ?_
    refine cw_block ?_
    refine cw_seq ?_
    refine cw_region ?_
    -- r4.0 t10 := move  t0
    refine ol_pure rfl (op_move rfl) ?_
    -- r4.1 t11 := move  t3
    refine ol_pure rfl (op_move rfl) ?_
    -- r4.2 t12 := index [9] t10 t11
    refine ol_pure rfl (op_indexS Try.underlying9 rfl rfl (by omega)) ?_
    -- r4.3 t13 := lss t12 C32
    refine ol_pure rfl (op_lss rfl rfl) ?_
    -- r4.4 t14 := move  t13
    refine ol_pure rfl (op_move rfl) ?_
    refine ol_split (fun h14 => ?_) (fun h14 => ?_)
    · skip
      try simp only [decide_eq_true_eq, decide_eq_false_iff_not, Bool.not_eq_true', Bool.not_eq_false', Bool.not_eq_eq_eq_not, Bool.not_true, Bool.not_false] at h14
      refine ol_guard_no rfl rfl rfl rfl ?_
      refine ol_guard_no rfl rfl rfl rfl ?_
      refine ol_guard_no rfl rfl rfl rfl ?_
      refine ol_guard_no rfl rfl rfl rfl ?_
      -- r4.9 t19 := pick  t14 Ctrue t18
      refine ol_pure rfl (op_pick_t rfl rfl) ?_
      -- r4.10 t20 := move  t19
      refine ol_pure rfl (op_move rfl) ?_
      refine ol_guard_no rfl rfl rfl rfl ?_
      refine ol_guard_no rfl rfl rfl rfl ?_
      refine ol_guard_no rfl rfl rfl rfl ?_
      refine ol_guard_no rfl rfl rfl rfl ?_
      -- r4.15 t25 := pick  t20 Ctrue t24
      refine ol_pure rfl (op_pick_t rfl rfl) ?_
      refine ol_nil ?_
      refine pq_then ?_
      refine cw_cond_t rfl ?_
      refine cw_seq ?_
      refine cw_region ?_
      -- r5.0 t2 := assign  Cfalse
      refine ol_pure rfl (op_assign rfl) ?_
      refine ol_nil ?_
      refine pq_then ?_
      refine cw_ret ?_
      refine pq_in_ret ?_
      refine pq_ret ?_
      refine pq_ret ?_
      refine pq_in_ret ?_
      refine pq_ret ?_
      refine ret1 rfl rfl ?_
      -- ret1 h7t h14t
      have hbad : byteBad s.data.toList[k] = true := by
        rw [hsk, byteBad]
        simp
        omega
      exact hS.sc_b (by rw [nameB, Pl.any_true_at _ _ _ hlt' hbad]; rfl)
    · skip
      try simp only [decide_eq_true_eq, decide_eq_false_iff_not, Bool.not_eq_true', Bool.not_eq_false', Bool.not_eq_eq_eq_not, Bool.not_true, Bool.not_false] at h14
      -- r4.5 t15 := move  t0 ?4=False
      refine ol_guard_pure rfl rfl rfl (op_move rfl) ?_
      -- r4.6 t16 := move  t3 ?4=False
      refine ol_guard_pure rfl rfl rfl (op_move rfl) ?_
      -- r4.7 t17 := index [9] t15 t16 ?4=False
      refine ol_guard_pure rfl rfl rfl (op_indexS Try.underlying9 rfl rfl (by omega)) ?_
      -- r4.8 t18 := gtr t17 C126 ?4=False
      refine ol_guard_pure rfl rfl rfl (op_gtr rfl rfl) ?_
      -- r4.9 t19 := pick  t14 Ctrue t18
      refine ol_pure rfl (op_pick_f rfl rfl) ?_
      -- r4.10 t20 := move  t19
      refine ol_pure rfl (op_move rfl) ?_
      refine ol_split (fun h20 => ?_) (fun h20 => ?_)
      · skip
        try simp only [decide_eq_true_eq, decide_eq_false_iff_not, Bool.not_eq_true', Bool.not_eq_false', Bool.not_eq_eq_eq_not, Bool.not_true, Bool.not_false] at h20
        refine ol_guard_no rfl rfl rfl rfl ?_
        refine ol_guard_no rfl rfl rfl rfl ?_
        refine ol_guard_no rfl rfl rfl rfl ?_
        refine ol_guard_no rfl rfl rfl rfl ?_
        -- r4.15 t25 := pick  t20 Ctrue t24
        refine ol_pure rfl (op_pick_t rfl rfl) ?_
        refine ol_nil ?_
        refine pq_then ?_
        refine cw_cond_t rfl ?_
        refine cw_seq ?_
        refine cw_region ?_
        -- r5.0 t2 := assign  Cfalse
        refine ol_pure rfl (op_assign rfl) ?_
        refine ol_nil ?_
        refine pq_then ?_
        refine cw_ret ?_
        refine pq_in_ret ?_
        refine pq_ret ?_
        refine pq_ret ?_
        refine pq_in_ret ?_
        refine pq_ret ?_
        refine ret1 rfl rfl ?_
        -- ret1 h7t h14f h20t
        have hbad : byteBad s.data.toList[k] = true := by
          rw [hsk, byteBad]
          simp
          omega
        exact hS.sc_b (by rw [nameB, Pl.any_true_at _ _ _ hlt' hbad]; rfl)
      · skip
        try simp only [decide_eq_true_eq, decide_eq_false_iff_not, Bool.not_eq_true', Bool.not_eq_false', Bool.not_eq_eq_eq_not, Bool.not_true, Bool.not_false] at h20
        -- r4.11 t21 := move  t0 ?10=False
        refine ol_guard_pure rfl rfl rfl (op_move rfl) ?_
        -- r4.12 t22 := move  t3 ?10=False
        refine ol_guard_pure rfl rfl rfl (op_move rfl) ?_
        -- r4.13 t23 := index [9] t21 t22 ?10=False
        refine ol_guard_pure rfl rfl rfl (op_indexS Try.underlying9 rfl rfl (by omega)) ?_
        -- r4.14 t24 := eql t23 C39 ?10=False
        refine ol_guard_pure rfl rfl rfl (op_eql rfl rfl) ?_
        -- r4.15 t25 := pick  t20 Ctrue t24
        refine ol_pure rfl (op_pick_f rfl rfl) ?_
        refine ol_nil ?_
        refine pq_then ?_
        refine cw_cond rfl (fun h25 => ?_) (fun h25 => ?_)
        · skip
          try simp only [decide_eq_true_eq, decide_eq_false_iff_not, Bool.not_eq_true', Bool.not_eq_false', Bool.not_eq_eq_eq_not, Bool.not_true, Bool.not_false] at h25
          refine cw_seq ?_
          refine cw_region ?_
          -- r5.0 t2 := assign  Cfalse
          refine ol_pure rfl (op_assign rfl) ?_
          refine ol_nil ?_
          refine pq_then ?_
          refine cw_ret ?_
          refine pq_in_ret ?_
          refine pq_ret ?_
          refine pq_ret ?_
          refine pq_in_ret ?_
          refine pq_ret ?_
          refine ret1 rfl rfl ?_
          -- ret1 h7t h14f h20f h25t
          have hbad : byteBad s.data.toList[k] = true := by
            rw [hsk, byteBad]
            simp
            omega
          exact hS.sc_b (by rw [nameB, Pl.any_true_at _ _ _ hlt' hbad]; rfl)
        · skip
          try simp only [decide_eq_true_eq, decide_eq_false_iff_not, Bool.not_eq_true', Bool.not_eq_false', Bool.not_eq_eq_eq_not, Bool.not_true, Bool.not_false] at h25
          have hbad : byteBad s.data.toList[k] = false := by
            rw [hsk, byteBad]
            simp
            omega
          refine cw_skip ?_
          refine pq_in_normal ?_
          refine pq_then ?_
          refine cw_region ?_
          -- r3.0 t8 := move  t3
          refine ol_pure rfl (op_move rfl) ?_
          -- r3.1 t9 := add t8 C1
          refine ol_pure rfl (op_add rfl rfl (by omega) (by omega)) ?_
          -- r3.2 t3 := assign  t9
          refine ol_pure rfl (op_assign rfl) ?_
          refine ol_nil ?_
          -- end of round 1 h7t h14f h20f h25f
          refine pq_loop _ _ (by exact ⟨k + 1, rfl, by omega, rfl, by rw [Pl.any_take_succ _ _ _ hlt', hp, hbad]; rfl, hS⟩) ((Sub.cons rfl (Sub.cons rfl Sub.nil))) (by omega)
  · skip
    try simp only [decide_eq_true_eq, decide_eq_false_iff_not, Bool.not_eq_true', Bool.not_eq_false', Bool.not_eq_eq_eq_not, Bool.not_true, Bool.not_false] at h7
    refine cw_exit ?_
    refine pq_exit ?_
    refine pq_exit ?_
    refine pq_in_exit ?_
    refine pq_then ?_
    refine cw_seq ?_
    refine cw_region ?_
    -- r6.0 t26 := move  t0
    refine ol_pure rfl (op_move rfl) ?_
    -- r6.1 t27 := call len t26
    refine ol_pure rfl (op_lenS Try.underlying9 rfl rfl) ?_
    -- r6.2 t28 := geq t27 C1
    refine ol_pure rfl (op_geq rfl rfl) ?_
    -- r6.3 t29 := move  t28
    refine ol_pure rfl (op_move rfl) ?_
    refine ol_split (fun h29 => ?_) (fun h29 => ?_)
    · skip
      try simp only [decide_eq_true_eq, decide_eq_false_iff_not, Bool.not_eq_true', Bool.not_eq_false', Bool.not_eq_eq_eq_not, Bool.not_true, Bool.not_false] at h29
      -- r6.4 t30 := move  t0 ?3=True
      refine ol_guard_pure rfl rfl rfl (op_move rfl) ?_
      -- r6.5 t31 := call len t30 ?3=True
      refine ol_guard_pure rfl rfl rfl (op_lenS Try.underlying9 rfl rfl) ?_
      -- r6.6 t32 := leq t31 C12 ?3=True
      refine ol_guard_pure rfl rfl rfl (op_leq rfl rfl) ?_
      -- r6.7 t33 := pick  t29 t32 Cfalse
      refine ol_pure rfl (op_pick_t rfl rfl) ?_
      -- r6.8 t2 := assign  t33
      refine ol_pure rfl (op_assign rfl) ?_
      refine ol_nil ?_
      refine pq_then ?_
      refine cw_ret ?_
      refine ret1 rfl rfl ?_
      -- ret2 h7f h29t
      have e1 : 1 ≤ s.size := by omega
      have e2 : decide ((s.size : Int) ≤ 12) = decide (s.size ≤ 12) := decide_eq_decide.2 (by omega)
      exact hS.sc_b (by rw [nameB, Pl.any_of_take _ _ _ (by simpa using (by omega : s.size ≤ k)) hp, decide_eq_true e1, ← e2]; rfl)
    · skip
      try simp only [decide_eq_true_eq, decide_eq_false_iff_not, Bool.not_eq_true', Bool.not_eq_false', Bool.not_eq_eq_eq_not, Bool.not_true, Bool.not_false] at h29
      refine ol_guard_no rfl rfl rfl rfl ?_
      refine ol_guard_no rfl rfl rfl rfl ?_
      refine ol_guard_no rfl rfl rfl rfl ?_
      -- r6.7 t33 := pick  t29 t32 Cfalse
      refine ol_pure rfl (op_pick_f rfl rfl) ?_
      -- r6.8 t2 := assign  t33
      refine ol_pure rfl (op_assign rfl) ?_
      refine ol_nil ?_
      refine pq_then ?_
      refine cw_ret ?_
      refine ret1 rfl rfl ?_
      -- ret2 h7f h29f
      exact hS.sc_b (by rw [nameB, Pl.any_of_take _ _ _ (by simpa using (by omega : s.size ≤ k)) hp]; simp; omega)
set_option maxRecDepth 100000 in

theorem R01_cell_c (G : GH) (w0 : World) (hG : Holds G w0) (c : Cell) (hb : (-9223372036854775808 ≤ c.kind ∧ c.kind ≤ 9223372036854775807) ∧ (-9223372036854775808 ≤ c.n ∧ c.n ≤ 9223372036854775807) ∧ c.name.size ≤ 9223372036854775807) :
    Calls Try.prog 77 #[.agg #[.int .i64 c.kind, .string c.name, .int .i64 c.n]] w0 (Sc w0 (.bool (cellB c))) := by
  refine enter Try.func77 rfl (N := 50) rfl (Nat.le_of_ble_eq_true rfl) ?_
  have hS := SS.init hG
  refine cw_seq ?_
  refine cw_region ?_
  -- r0.0 t1 := box [69] t0
  refine ol_step rfl (op_box hS rfl rfl) ?_
  clear hS
  rintro _ w ⟨b1, rfl, hS⟩
  -- r0.1 t2 := assign  Cfalse
  refine ol_pure rfl (op_assign rfl) ?_
  refine ol_nil ?_
  refine pq_then ?_
  refine cw_seq ?_
  refine cw_seq ?_
  refine cw_region ?_
  -- r1.0 t3 := fieldAddr [69, 0] t1
  refine ol_pure rfl (op_fieldAddr fld_69_0 rfl) ?_
  -- r1.1 t4 := load [3] t3
  refine ol_load rfl (op_load1 one_3 rfl (fun w hw => (hw.bcell (i := 0) rfl).trans rfl)) hS ?_
  refine ol_nil ?_
  refine pq_then ?_
  refine cw_block ?_
  refine cw_seq ?_
  refine cw_region ?_
  -- r2.0 t6 := eql t4 C1
  refine ol_pure rfl (op_eql rfl rfl) ?_
  -- r2.1 t5 := assign  t6
  refine ol_pure rfl (op_assign rfl) ?_
  refine ol_nil ?_
  refine pq_then ?_
  refine cw_cond rfl (fun h5 => ?_) (fun h5 => ?_)
  · skip
    try simp only [decide_eq_true_eq, decide_eq_false_iff_not, Bool.not_eq_true', Bool.not_eq_false', Bool.not_eq_eq_eq_not, Bool.not_true, Bool.not_false] at h5
    refine cw_seq ?_
    refine cw_region ?_
    -- r3.0 t7 := fieldAddr [69, 1] t1
    refine ol_pure rfl (op_fieldAddr fld_69_1 rfl) ?_
    -- r3.1 t8 := load [9] t7
    refine ol_load rfl (op_load1 one_9 rfl (fun w hw => (hw.bcell (i := 0) rfl).trans rfl)) hS ?_
    -- r3.2 t9 := eql t8 C(string (mk (toArray UInt8 (nil UInt8))))
    refine ol_pure rfl (op_eqlS rfl rfl) ?_
    -- r3.3 t10 := move  t9
    refine ol_pure rfl (op_move rfl) ?_
    refine ol_split (fun h10 => ?_) (fun h10 => ?_)
    · skip
      try simp only [decide_eq_true_eq, decide_eq_false_iff_not, Bool.not_eq_true', Bool.not_eq_false', Bool.not_eq_eq_eq_not, Bool.not_true, Bool.not_false] at h10
      -- r3.4 t11 := fieldAddr [69, 2] t1 ?3=True
      refine ol_guard_pure rfl rfl rfl (op_fieldAddr fld_69_2 rfl) ?_
      -- r3.5 t12 := load [3] t11 ?3=True
      refine ol_guard_load rfl rfl rfl (op_load1 one_3 rfl (fun w hw => (hw.bcell (i := 0) rfl).trans rfl)) hS ?_
      -- r3.6 t13 := geq t12 C0 ?3=True
      refine ol_guard_pure rfl rfl rfl (op_geq rfl rfl) ?_
      -- r3.7 t14 := pick  t10 t13 Cfalse
      refine ol_pure rfl (op_pick_t rfl rfl) ?_
      -- r3.8 t15 := move  t14
      refine ol_pure rfl (op_move rfl) ?_
      refine ol_split (fun h15 => ?_) (fun h15 => ?_)
      · skip
        try simp only [decide_eq_true_eq, decide_eq_false_iff_not, Bool.not_eq_true', Bool.not_eq_false', Bool.not_eq_eq_eq_not, Bool.not_true, Bool.not_false] at h15
        -- r3.9 t16 := fieldAddr [69, 2] t1 ?8=True
        refine ol_guard_pure rfl rfl rfl (op_fieldAddr fld_69_2 rfl) ?_
        -- r3.10 t17 := load [3] t16 ?8=True
        refine ol_guard_load rfl rfl rfl (op_load1 one_3 rfl (fun w hw => (hw.bcell (i := 0) rfl).trans rfl)) hS ?_
        -- r3.11 t18 := leq t17 C999 ?8=True
        refine ol_guard_pure rfl rfl rfl (op_leq rfl rfl) ?_
        -- r3.12 t19 := pick  t15 t18 Cfalse
        refine ol_pure rfl (op_pick_t rfl rfl) ?_
        -- r3.13 t2 := assign  t19
        refine ol_pure rfl (op_assign rfl) ?_
        refine ol_nil ?_
        refine pq_then ?_
        refine cw_ret ?_
        refine pq_in_ret ?_
        refine pq_ret ?_
        refine ret1 rfl rfl ?_
        -- ret1 h5t h10t h15t
        exact hS.sc_b (by unfold cellB; simp_all <;> omega)
      · skip
        try simp only [decide_eq_true_eq, decide_eq_false_iff_not, Bool.not_eq_true', Bool.not_eq_false', Bool.not_eq_eq_eq_not, Bool.not_true, Bool.not_false] at h15
        refine ol_guard_no rfl rfl rfl rfl ?_
        refine ol_guard_no rfl rfl rfl rfl ?_
        refine ol_guard_no rfl rfl rfl rfl ?_
        -- r3.12 t19 := pick  t15 t18 Cfalse
        refine ol_pure rfl (op_pick_f rfl rfl) ?_
        -- r3.13 t2 := assign  t19
        refine ol_pure rfl (op_assign rfl) ?_
        refine ol_nil ?_
        refine pq_then ?_
        refine cw_ret ?_
        refine pq_in_ret ?_
        refine pq_ret ?_
        refine ret1 rfl rfl ?_
        -- ret1 h5t h10t h15f
        exact hS.sc_b (by unfold cellB; simp_all <;> omega)
    · skip
      try simp only [decide_eq_true_eq, decide_eq_false_iff_not, Bool.not_eq_true', Bool.not_eq_false', Bool.not_eq_eq_eq_not, Bool.not_true, Bool.not_false] at h10
      refine ol_guard_no rfl rfl rfl rfl ?_
      refine ol_guard_no rfl rfl rfl rfl ?_
      refine ol_guard_no rfl rfl rfl rfl ?_
      -- r3.7 t14 := pick  t10 t13 Cfalse
      refine ol_pure rfl (op_pick_f rfl rfl) ?_
      -- r3.8 t15 := move  t14
      refine ol_pure rfl (op_move rfl) ?_
      refine ol_guard_no rfl rfl rfl rfl ?_
      refine ol_guard_no rfl rfl rfl rfl ?_
      refine ol_guard_no rfl rfl rfl rfl ?_
      -- r3.12 t19 := pick  t15 t18 Cfalse
      refine ol_pure rfl (op_pick_f rfl rfl) ?_
      -- r3.13 t2 := assign  t19
      refine ol_pure rfl (op_assign rfl) ?_
      refine ol_nil ?_
      refine pq_then ?_
      refine cw_ret ?_
      refine pq_in_ret ?_
      refine pq_ret ?_
      refine ret1 rfl rfl ?_
      -- ret1 h5t h10f
      exact hS.sc_b (by unfold cellB; simp_all <;> omega)
  · skip
    try simp only [decide_eq_true_eq, decide_eq_false_iff_not, Bool.not_eq_true', Bool.not_eq_false', Bool.not_eq_eq_eq_not, Bool.not_true, Bool.not_false] at h5
    refine cw_seq ?_
    refine cw_region ?_
    -- r4.0 t21 := eql t4 C2
    refine ol_pure rfl (op_eql rfl rfl) ?_
    -- r4.1 t20 := assign  t21
    refine ol_pure rfl (op_assign rfl) ?_
    refine ol_nil ?_
    refine pq_then ?_
    refine cw_cond rfl (fun h20 => ?_) (fun h20 => ?_)
    · skip
      try simp only [decide_eq_true_eq, decide_eq_false_iff_not, Bool.not_eq_true', Bool.not_eq_false', Bool.not_eq_eq_eq_not, Bool.not_true, Bool.not_false] at h20
      refine cw_seq ?_
      refine cw_region ?_
      -- r5.0 t22 := fieldAddr [69, 1] t1
      refine ol_pure rfl (op_fieldAddr fld_69_1 rfl) ?_
      -- r5.1 t23 := load [9] t22
      refine ol_load rfl (op_load1 one_9 rfl (fun w hw => (hw.bcell (i := 0) rfl).trans rfl)) hS ?_
      -- r5.2 t24 := eql t23 C(string (mk (toArray UInt8 (nil UInt8))))
      refine ol_pure rfl (op_eqlS rfl rfl) ?_
      -- r5.3 t25 := move  t24
      refine ol_pure rfl (op_move rfl) ?_
      refine ol_split (fun h25 => ?_) (fun h25 => ?_)
      · skip
        try simp only [decide_eq_true_eq, decide_eq_false_iff_not, Bool.not_eq_true', Bool.not_eq_false', Bool.not_eq_eq_eq_not, Bool.not_true, Bool.not_false] at h25
        -- r5.4 t26 := fieldAddr [69, 2] t1 ?3=True
        refine ol_guard_pure rfl rfl rfl (op_fieldAddr fld_69_2 rfl) ?_
        -- r5.5 t27 := load [3] t26 ?3=True
        refine ol_guard_load rfl rfl rfl (op_load1 one_3 rfl (fun w hw => (hw.bcell (i := 0) rfl).trans rfl)) hS ?_
        -- r5.6 t28 := geq t27 C-2147483647 ?3=True
        refine ol_guard_pure rfl rfl rfl (op_geq rfl rfl) ?_
        -- r5.7 t29 := pick  t25 t28 Cfalse
        refine ol_pure rfl (op_pick_t rfl rfl) ?_
        -- r5.8 t30 := move  t29
        refine ol_pure rfl (op_move rfl) ?_
        refine ol_split (fun h30 => ?_) (fun h30 => ?_)
        · skip
          try simp only [decide_eq_true_eq, decide_eq_false_iff_not, Bool.not_eq_true', Bool.not_eq_false', Bool.not_eq_eq_eq_not, Bool.not_true, Bool.not_false] at h30
          -- r5.9 t31 := fieldAddr [69, 2] t1 ?8=True
          refine ol_guard_pure rfl rfl rfl (op_fieldAddr fld_69_2 rfl) ?_
          -- r5.10 t32 := load [3] t31 ?8=True
          refine ol_guard_load rfl rfl rfl (op_load1 one_3 rfl (fun w hw => (hw.bcell (i := 0) rfl).trans rfl)) hS ?_
          -- r5.11 t33 := leq t32 C2147483647 ?8=True
          refine ol_guard_pure rfl rfl rfl (op_leq rfl rfl) ?_
          -- r5.12 t34 := pick  t30 t33 Cfalse
          refine ol_pure rfl (op_pick_t rfl rfl) ?_
          -- r5.13 t2 := assign  t34
          refine ol_pure rfl (op_assign rfl) ?_
          refine ol_nil ?_
          refine pq_then ?_
          refine cw_ret ?_
          refine pq_in_ret ?_
          refine pq_ret ?_
          refine ret1 rfl rfl ?_
          -- ret2 h5f h20t h25t h30t
          exact hS.sc_b (by unfold cellB; simp_all <;> omega)
        · skip
          try simp only [decide_eq_true_eq, decide_eq_false_iff_not, Bool.not_eq_true', Bool.not_eq_false', Bool.not_eq_eq_eq_not, Bool.not_true, Bool.not_false] at h30
          refine ol_guard_no rfl rfl rfl rfl ?_
          refine ol_guard_no rfl rfl rfl rfl ?_
          refine ol_guard_no rfl rfl rfl rfl ?_
          -- r5.12 t34 := pick  t30 t33 Cfalse
          refine ol_pure rfl (op_pick_f rfl rfl) ?_
          -- r5.13 t2 := assign  t34
          refine ol_pure rfl (op_assign rfl) ?_
          refine ol_nil ?_
          refine pq_then ?_
          refine cw_ret ?_
          refine pq_in_ret ?_
          refine pq_ret ?_
          refine ret1 rfl rfl ?_
          -- ret2 h5f h20t h25t h30f
          exact hS.sc_b (by unfold cellB; simp_all <;> omega)
      · skip
        try simp only [decide_eq_true_eq, decide_eq_false_iff_not, Bool.not_eq_true', Bool.not_eq_false', Bool.not_eq_eq_eq_not, Bool.not_true, Bool.not_false] at h25
        refine ol_guard_no rfl rfl rfl rfl ?_
        refine ol_guard_no rfl rfl rfl rfl ?_
        refine ol_guard_no rfl rfl rfl rfl ?_
        -- r5.7 t29 := pick  t25 t28 Cfalse
        refine ol_pure rfl (op_pick_f rfl rfl) ?_
        -- r5.8 t30 := move  t29
        refine ol_pure rfl (op_move rfl) ?_
        refine ol_guard_no rfl rfl rfl rfl ?_
        refine ol_guard_no rfl rfl rfl rfl ?_
        refine ol_guard_no rfl rfl rfl rfl ?_
        -- r5.12 t34 := pick  t30 t33 Cfalse
        refine ol_pure rfl (op_pick_f rfl rfl) ?_
        -- r5.13 t2 := assign  t34
        refine ol_pure rfl (op_assign rfl) ?_
        refine ol_nil ?_
        refine pq_then ?_
        refine cw_ret ?_
        refine pq_in_ret ?_
        refine pq_ret ?_
        refine ret1 rfl rfl ?_
        -- ret2 h5f h20t h25f
        exact hS.sc_b (by unfold cellB; simp_all <;> omega)
    · skip
      try simp only [decide_eq_true_eq, decide_eq_false_iff_not, Bool.not_eq_true', Bool.not_eq_false', Bool.not_eq_eq_eq_not, Bool.not_true, Bool.not_false] at h20
      refine cw_seq ?_
      refine cw_region ?_
      -- r6.0 t36 := eql t4 C3
      refine ol_pure rfl (op_eql rfl rfl) ?_
      -- r6.1 t35 := assign  t36
      refine ol_pure rfl (op_assign rfl) ?_
      refine ol_nil ?_
      refine pq_then ?_
      refine cw_cond rfl (fun h35 => ?_) (fun h35 => ?_)
      · skip
        try simp only [decide_eq_true_eq, decide_eq_false_iff_not, Bool.not_eq_true', Bool.not_eq_false', Bool.not_eq_eq_eq_not, Bool.not_true, Bool.not_false] at h35
        refine cw_seq ?_
        refine cw_region ?_
        -- r7.0 t37 := fieldAddr [69, 1] t1
        refine ol_pure rfl (op_fieldAddr fld_69_1 rfl) ?_
        -- r7.1 t38 := load [9] t37
        refine ol_load rfl (op_load1 one_9 rfl (fun w hw => (hw.bcell (i := 0) rfl).trans rfl)) hS ?_
        -- r7.2 t39 := call f78 t38
        refine ol_step rfl (op_call_sc hS cf_78 rfl (R01_name_c G _ hS.hold c.name hb.2.2)) ?_
        clear hS
        rintro _ w ⟨rfl, hS⟩
        -- r7.3 t40 := move  t39
        refine ol_pure rfl (op_move rfl) ?_
        refine ol_split (fun h40 => ?_) (fun h40 => ?_)
        · skip
          try simp only [decide_eq_true_eq, decide_eq_false_iff_not, Bool.not_eq_true', Bool.not_eq_false', Bool.not_eq_eq_eq_not, Bool.not_true, Bool.not_false] at h40
          -- r7.4 t41 := fieldAddr [69, 2] t1 ?3=True
          refine ol_guard_pure rfl rfl rfl (op_fieldAddr fld_69_2 rfl) ?_
          -- r7.5 t42 := load [3] t41 ?3=True
          refine ol_guard_load rfl rfl rfl (op_load1 one_3 rfl (fun w hw => (hw.bcell (i := 0) rfl).trans rfl)) hS ?_
          -- r7.6 t43 := geq t42 C0 ?3=True
          refine ol_guard_pure rfl rfl rfl (op_geq rfl rfl) ?_
          -- r7.7 t44 := pick  t40 t43 Cfalse
          refine ol_pure rfl (op_pick_t rfl rfl) ?_
          -- r7.8 t45 := move  t44
          refine ol_pure rfl (op_move rfl) ?_
          refine ol_split (fun h45 => ?_) (fun h45 => ?_)
          · skip
            try simp only [decide_eq_true_eq, decide_eq_false_iff_not, Bool.not_eq_true', Bool.not_eq_false', Bool.not_eq_eq_eq_not, Bool.not_true, Bool.not_false] at h45
            -- r7.9 t46 := fieldAddr [69, 2] t1 ?8=True
            refine ol_guard_pure rfl rfl rfl (op_fieldAddr fld_69_2 rfl) ?_
            -- r7.10 t47 := load [3] t46 ?8=True
            refine ol_guard_load rfl rfl rfl (op_load1 one_3 rfl (fun w hw => (hw.bcell (i := 0) rfl).trans rfl)) hS ?_
            -- r7.11 t48 := leq t47 C6 ?8=True
            refine ol_guard_pure rfl rfl rfl (op_leq rfl rfl) ?_
            -- r7.12 t49 := pick  t45 t48 Cfalse
            refine ol_pure rfl (op_pick_t rfl rfl) ?_
            -- r7.13 t2 := assign  t49
            refine ol_pure rfl (op_assign rfl) ?_
            refine ol_nil ?_
            refine pq_then ?_
            refine cw_ret ?_
            refine pq_in_ret ?_
            refine pq_ret ?_
            refine ret1 rfl rfl ?_
            -- ret3 h5f h20f h35t h40t h45t
            exact hS.sc_b (by unfold cellB; simp_all <;> omega)
          · skip
            try simp only [decide_eq_true_eq, decide_eq_false_iff_not, Bool.not_eq_true', Bool.not_eq_false', Bool.not_eq_eq_eq_not, Bool.not_true, Bool.not_false] at h45
            refine ol_guard_no rfl rfl rfl rfl ?_
            refine ol_guard_no rfl rfl rfl rfl ?_
            refine ol_guard_no rfl rfl rfl rfl ?_
            -- r7.12 t49 := pick  t45 t48 Cfalse
            refine ol_pure rfl (op_pick_f rfl rfl) ?_
            -- r7.13 t2 := assign  t49
            refine ol_pure rfl (op_assign rfl) ?_
            refine ol_nil ?_
            refine pq_then ?_
            refine cw_ret ?_
            refine pq_in_ret ?_
            refine pq_ret ?_
            refine ret1 rfl rfl ?_
            -- ret3 h5f h20f h35t h40t h45f
            exact hS.sc_b (by unfold cellB; simp_all <;> omega)
        · skip
          try simp only [decide_eq_true_eq, decide_eq_false_iff_not, Bool.not_eq_true', Bool.not_eq_false', Bool.not_eq_eq_eq_not, Bool.not_true, Bool.not_false] at h40
          refine ol_guard_no rfl rfl rfl rfl ?_
          refine ol_guard_no rfl rfl rfl rfl ?_
          refine ol_guard_no rfl rfl rfl rfl ?_
          -- r7.7 t44 := pick  t40 t43 Cfalse
          refine ol_pure rfl (op_pick_f rfl rfl) ?_
          -- r7.8 t45 := move  t44
          refine ol_pure rfl (op_move rfl) ?_
          refine ol_guard_no rfl rfl rfl rfl ?_
          refine ol_guard_no rfl rfl rfl rfl ?_
          refine ol_guard_no rfl rfl rfl rfl ?_
          -- r7.12 t49 := pick  t45 t48 Cfalse
          refine ol_pure rfl (op_pick_f rfl rfl) ?_
          -- r7.13 t2 := assign  t49
          refine ol_pure rfl (op_assign rfl) ?_
          refine ol_nil ?_
          refine pq_then ?_
          refine cw_ret ?_
          refine pq_in_ret ?_
          refine pq_ret ?_
          refine ret1 rfl rfl ?_
          -- ret3 h5f h20f h35t h40f
          exact hS.sc_b (by unfold cellB; simp_all <;> omega)
      · skip
        try simp only [decide_eq_true_eq, decide_eq_false_iff_not, Bool.not_eq_true', Bool.not_eq_false', Bool.not_eq_eq_eq_not, Bool.not_true, Bool.not_false] at h35
        refine cw_skip ?_
        refine pq_in_normal ?_
        refine pq_then ?_
        refine cw_seq ?_
        refine cw_region ?_
        -- r8.0 t2 := assign  Cfalse
        refine ol_pure rfl (op_assign rfl) ?_
        refine ol_nil ?_
        refine pq_then ?_
        refine cw_ret ?_
        refine ret1 rfl rfl ?_
        -- ret4 h5f h20f h35f
        exact hS.sc_b (by unfold cellB; simp_all <;> omega)
set_option maxRecDepth 100000 in
set_option maxHeartbeats 400000 in

theorem R01_End_c (G : GH) (w0 : World) (hG : Holds G w0) (v : Value) (t : List Cell) (h1 : RSl 3 ECell G v t) (a : Nat) (ha : a ≤ t.length) (ht : t.length ≤ 1000000) :
    Calls Try.prog 72 #[v, .int .i64 (a : Nat)] w0 (Sc w0 (.int .i64 (endI (t.drop a) 1 a))) := by
  obtain ⟨oa, cc, rfl, hlc, hcm⟩ := h1.elim
  have hle := h1.le
  refine enter Try.func72 rfl (N := 39) rfl (Nat.le_of_ble_eq_true rfl) ?_
  have hS := SS.init hG
  refine cw_seq ?_
  refine cw_region ?_
  -- r0.0 t4 := assign  C0
  refine ol_pure rfl (op_assign rfl) ?_
  refine ol_nil ?_
  refine pq_then ?_
  refine cw_seq ?_
  refine cw_region ?_
  -- r1.0 t5 := assign  C1
  refine ol_pure rfl (op_assign rfl) ?_
  refine ol_nil ?_
  refine pq_then ?_
  refine cw_seq ?_
  refine cw_seq ?_
  refine cw_region ?_
  -- r2.0 t7 := move  t1
  refine ol_pure rfl (op_move rfl) ?_
  -- r2.1 t6 := assign  t7
  refine ol_pure rfl (op_assign rfl) ?_
  refine ol_nil ?_
  refine pq_then ?_
  refine cw_block ?_
  refine cw_loop (fun e w n => ∃ (o : Int) (k : Nat), e = [(0, .slice oa t.length cc), (5, .int .i64 o), (6, .int .i64 (k : Nat))] ∧ k ≤ t.length ∧ n = t.length - k ∧ endI (t.drop a) 1 a = endI (t.drop k) o k ∧ 1 - (k : Int) ≤ o ∧ o ≤ 1 + 5 * (k : Int) ∧ SS G w0 G [] w) _ _ (by exact ⟨1, a, rfl, ha, rfl, rfl, by omega, by omega, hS⟩) ((Sub.cons rfl (Sub.cons rfl (Sub.cons rfl Sub.nil)))) ?_
  clear hS
  rintro e w n ⟨o, k, rfl, hk, rfl, hp, ho1, ho2, hS⟩
  refine cw_seq ?_
  refine cw_seq ?_
  refine cw_region ?_
  -- r3.0 t8 := move  t6
  refine ol_pure rfl (op_move rfl) ?_
  -- r3.1 t9 := move  t0
  refine ol_pure rfl (op_move rfl) ?_
  -- r3.2 t10 := call len t9
  refine ol_pure rfl (op_len sl_70 rfl rfl) ?_
  -- r3.3 t11 := lss t8 t10
  refine ol_pure rfl (op_lss rfl rfl) ?_
  refine ol_nil ?_
  refine pq_then ?_
  refine cw_cond rfl (fun h11 => ?_) (fun h11 => ?_)
  · skip
    try simp only [decide_eq_true_eq, decide_eq_false_iff_not, Bool.not_eq_true', Bool.not_eq_false', Bool.not_eq_eq_eq_not, Bool.not_true, Bool.not_false] at h11
    have hlt : k < t.length := by omega
    obtain ⟨hoa, hbd, hcells⟩ := h1.cellAt hlt
    refine cw_skip ?_
    refine pq_then ?_
    refine cw_seq ?_
    refine cw_block ?_
    refine cw_seq ?_
    refine cw_seq ?_
    refine cw_region ?_
    -- r5.0 t14 := move  t0
    refine ol_pure rfl (op_move rfl) ?_
    -- r5.1 t15 := move  t6
    refine ol_pure rfl (op_move rfl) ?_
    -- r5.2 t16 := indexAddr [70] t14 t15
    refine ol_pure rfl (op_indexN sl_70 rfl rfl (by omega) (by assumption)) ?_
    -- r5.3 t17 := load [69] t16
    refine ol_load rfl (op_loadN agg_69 rfl (by rfl) (fun w hw k u hk => hw.gcell (hcells k u hk))) hS ?_
    -- r5.4 t18 := call f77 t17
    refine ol_step rfl (op_call_sc hS cf_77 rfl (R01_cell_c G _ hS.hold t[k] hbd)) ?_
    clear hS
    rintro _ w ⟨rfl, hS⟩
    -- r5.5 t19 := not t18
    refine ol_pure rfl (op_not rfl) ?_
    refine ol_nil ?_
    refine pq_then ?_
    refine cw_cond rfl (fun h19 => ?_) (fun h19 => ?_)
    · skip
      try simp only [decide_eq_true_eq, decide_eq_false_iff_not, Bool.not_eq_true', Bool.not_eq_false', Bool.not_eq_eq_eq_not, Bool.not_true, Bool.not_false] at h19
      refine cw_seq ?_
      refine cw_region ?_
      -- r6.0 t4 := assign  C-1
      refine ol_pure rfl (op_assign rfl) ?_
      refine ol_nil ?_
      refine pq_then ?_
      refine cw_ret ?_
      refine pq_ret ?_
      refine pq_in_ret ?_
      refine pq_ret ?_
      refine pq_ret ?_
      refine pq_in_ret ?_
      refine pq_ret ?_
      refine ret1 rfl rfl ?_
      -- ret1 h11t h19t
      exact hS.sc_i (by rw [hp, endI_at hlt, if_neg (by simp [h19])])
    · skip
      try simp only [decide_eq_true_eq, decide_eq_false_iff_not, Bool.not_eq_true', Bool.not_eq_false', Bool.not_eq_eq_eq_not, Bool.not_true, Bool.not_false] at h19
      have hcb : cellB t[k] = true := h19
      have hsb := stepE_bound (o := o) hcb
      refine cw_skip ?_
      refine pq_then ?_
      refine cw_seq ?_
      refine cw_region ?_
      -- r7.0 t20 := move  t5
      refine ol_pure rfl (op_move rfl) ?_
      -- r7.1 t21 := sub t20 C1
      refine ol_pure rfl (op_sub rfl rfl (by omega) (by omega)) ?_
      -- r7.2 t5 := assign  t21
      refine ol_pure rfl (op_assign rfl) ?_
      refine ol_nil ?_
      refine pq_then ?_
      refine cw_seq ?_
      refine cw_seq ?_
      refine cw_region ?_
      -- r8.0 t22 := move  t0
      refine ol_pure rfl (op_move rfl) ?_
      -- r8.1 t23 := move  t6
      refine ol_pure rfl (op_move rfl) ?_
      -- r8.2 t24 := indexAddr [70] t22 t23
      refine ol_pure rfl (op_indexN sl_70 rfl rfl (by omega) (by assumption)) ?_
      -- r8.3 t25 := fieldAddr [69, 0] t24
      refine ol_pure rfl (op_fieldAddr fld_69_0 rfl) ?_
      -- r8.4 t26 := load [3] t25
      refine ol_load rfl (op_load1 one_3 rfl (fun w hw => hw.gcell (hcells 0 _ rfl))) hS ?_
      -- r8.5 t27 := eql t26 C3
      refine ol_pure rfl (op_eql rfl rfl) ?_
      refine ol_nil ?_
      refine pq_then ?_
      refine cw_cond rfl (fun h27 => ?_) (fun h27 => ?_)
      · skip
        try simp only [decide_eq_true_eq, decide_eq_false_iff_not, Bool.not_eq_true', Bool.not_eq_false', Bool.not_eq_eq_eq_not, Bool.not_true, Bool.not_false] at h27
        have hst : stepE t[k] o = o - 1 + t[k].n := by rw [stepE, if_pos h27]
        refine cw_region ?_
        -- r9.0 t28 := move  t5
        refine ol_pure rfl (op_move rfl) ?_
        -- r9.1 t29 := move  t0
        refine ol_pure rfl (op_move rfl) ?_
        -- r9.2 t30 := move  t6
        refine ol_pure rfl (op_move rfl) ?_
        -- r9.3 t31 := indexAddr [70] t29 t30
        refine ol_pure rfl (op_indexN sl_70 rfl rfl (by omega) (by assumption)) ?_
        -- r9.4 t32 := fieldAddr [69, 2] t31
        refine ol_pure rfl (op_fieldAddr fld_69_2 rfl) ?_
        -- r9.5 t33 := load [3] t32
        refine ol_load rfl (op_load1 one_3 rfl (fun w hw => hw.gcell (hcells 2 _ rfl))) hS ?_
        -- r9.6 t34 := add t28 t33
        refine ol_pure rfl (op_add rfl rfl (by omega) (by omega)) ?_
        -- r9.7 t5 := assign  t34
        refine ol_pure rfl (op_assign rfl) ?_
        refine ol_nil ?_
        refine pq_then ?_
        refine cw_seq ?_
        refine cw_region ?_
        -- r10.0 t35 := move  t5
        refine ol_pure rfl (op_move rfl) ?_
        -- r10.1 t36 := eql t35 C0
        refine ol_pure rfl (op_eql rfl rfl) ?_
        refine ol_nil ?_
        refine pq_then ?_
        refine cw_cond rfl (fun h36 => ?_) (fun h36 => ?_)
        · skip
          try simp only [decide_eq_true_eq, decide_eq_false_iff_not, Bool.not_eq_true', Bool.not_eq_false', Bool.not_eq_eq_eq_not, Bool.not_true, Bool.not_false] at h36
          refine cw_seq ?_
          refine cw_region ?_
          -- r11.0 t37 := move  t6
          refine ol_pure rfl (op_move rfl) ?_
          -- r11.1 t38 := add t37 C1
          refine ol_pure rfl (op_add rfl rfl (by omega) (by omega)) ?_
          -- r11.2 t4 := assign  t38
          refine ol_pure rfl (op_assign rfl) ?_
          refine ol_nil ?_
          refine pq_then ?_
          refine cw_ret ?_
          refine pq_in_ret ?_
          refine pq_ret ?_
          refine pq_ret ?_
          refine pq_in_ret ?_
          refine pq_ret ?_
          refine ret1 rfl rfl ?_
          -- ret2 h11t h19f h27t h36t
          exact hS.sc_i (by rw [hp, endI_at hlt, if_pos hcb, if_pos (by omega)])
        · skip
          try simp only [decide_eq_true_eq, decide_eq_false_iff_not, Bool.not_eq_true', Bool.not_eq_false', Bool.not_eq_eq_eq_not, Bool.not_true, Bool.not_false] at h36
          refine cw_skip ?_
          refine pq_in_normal ?_
          refine pq_then ?_
          refine cw_region ?_
          -- r4.0 t12 := move  t6
          refine ol_pure rfl (op_move rfl) ?_
          -- r4.1 t13 := add t12 C1
          refine ol_pure rfl (op_add rfl rfl (by omega) (by omega)) ?_
          -- r4.2 t6 := assign  t13
          refine ol_pure rfl (op_assign rfl) ?_
          refine ol_nil ?_
          -- end of round 1 h11t h19f h27t h36f
          refine pq_loop _ _ (by exact ⟨o - 1 + t[k].n, k + 1, rfl, by omega, rfl, by rw [hp, endI_at hlt, if_pos hcb, if_neg (by omega), hst]; rfl, by omega, by omega, hS⟩) ((Sub.cons rfl (Sub.cons rfl (Sub.cons rfl Sub.nil)))) (by omega)
      · skip
        try simp only [decide_eq_true_eq, decide_eq_false_iff_not, Bool.not_eq_true', Bool.not_eq_false', Bool.not_eq_eq_eq_not, Bool.not_true, Bool.not_false] at h27
        have hst : stepE t[k] o = o - 1 := by rw [stepE, if_neg h27]; omega
        refine cw_skip ?_
        refine pq_then ?_
        refine cw_seq ?_
        refine cw_region ?_
        -- r10.0 t35 := move  t5
        refine ol_pure rfl (op_move rfl) ?_
        -- r10.1 t36 := eql t35 C0
        refine ol_pure rfl (op_eql rfl rfl) ?_
        refine ol_nil ?_
        refine pq_then ?_
        refine cw_cond rfl (fun h36 => ?_) (fun h36 => ?_)
        · skip
          try simp only [decide_eq_true_eq, decide_eq_false_iff_not, Bool.not_eq_true', Bool.not_eq_false', Bool.not_eq_eq_eq_not, Bool.not_true, Bool.not_false] at h36
          refine cw_seq ?_
          refine cw_region ?_
          -- r11.0 t37 := move  t6
          refine ol_pure rfl (op_move rfl) ?_
          -- r11.1 t38 := add t37 C1
          refine ol_pure rfl (op_add rfl rfl (by omega) (by omega)) ?_
          -- r11.2 t4 := assign  t38
          refine ol_pure rfl (op_assign rfl) ?_
          refine ol_nil ?_
          refine pq_then ?_
          refine cw_ret ?_
          refine pq_in_ret ?_
          refine pq_ret ?_
          refine pq_ret ?_
          refine pq_in_ret ?_
          refine pq_ret ?_
          refine ret1 rfl rfl ?_
          -- ret2 h11t h19f h27f h36t
          exact hS.sc_i (by rw [hp, endI_at hlt, if_pos hcb, if_pos (by omega)])
        · skip
          try simp only [decide_eq_true_eq, decide_eq_false_iff_not, Bool.not_eq_true', Bool.not_eq_false', Bool.not_eq_eq_eq_not, Bool.not_true, Bool.not_false] at h36
          refine cw_skip ?_
          refine pq_in_normal ?_
          refine pq_then ?_
          refine cw_region ?_
          -- r4.0 t12 := move  t6
          refine ol_pure rfl (op_move rfl) ?_
          -- r4.1 t13 := add t12 C1
          refine ol_pure rfl (op_add rfl rfl (by omega) (by omega)) ?_
          -- r4.2 t6 := assign  t13
          refine ol_pure rfl (op_assign rfl) ?_
          refine ol_nil ?_
          -- end of round 1 h11t h19f h27f h36f
          refine pq_loop _ _ (by exact ⟨o - 1, k + 1, rfl, by omega, rfl, by rw [hp, endI_at hlt, if_pos hcb, if_neg (by omega), hst]; rfl, by omega, by omega, hS⟩) ((Sub.cons rfl (Sub.cons rfl (Sub.cons rfl Sub.nil)))) (by omega)
  · skip
    try simp only [decide_eq_true_eq, decide_eq_false_iff_not, Bool.not_eq_true', Bool.not_eq_false', Bool.not_eq_eq_eq_not, Bool.not_true, Bool.not_false] at h11
    refine cw_exit ?_
    refine pq_exit ?_
    refine pq_exit ?_
    refine pq_in_exit ?_
    refine pq_then ?_
    refine cw_seq ?_
    refine cw_region ?_
    -- r12.0 t4 := assign  C-1
    refine ol_pure rfl (op_assign rfl) ?_
    refine ol_nil ?_
    refine pq_then ?_
    refine cw_ret ?_
    refine ret1 rfl rfl ?_
    -- ret3 h11f
    exact hS.sc_i (by rw [hp, endI_end (by omega)])
set_option maxRecDepth 100000 in

theorem R01_Right_c (G : GH) (w0 : World) (hG : Holds G w0) (v : Value) (t : List Cell) (h1 : RSl 3 ECell G v t)  :
    Calls Try.prog 60 #[v] w0 (Sc w0 (.bool (rightT t))) := by
  obtain ⟨oa, cc, rfl, hlc, hcm⟩ := h1.elim
  have hle := h1.le
  refine enter Try.func60 rfl (N := 18) rfl (Nat.le_of_ble_eq_true rfl) ?_
  have hS := SS.init hG
  refine cw_seq ?_
  refine cw_region ?_
  -- r0.0 t2 := assign  Cfalse
  refine ol_pure rfl (op_assign rfl) ?_
  refine ol_nil ?_
  refine pq_then ?_
  refine cw_seq ?_
  refine cw_region ?_
  -- r1.0 t3 := move  t0
  refine ol_pure rfl (op_move rfl) ?_
  -- r1.1 t4 := call len t3
  refine ol_pure rfl (op_len sl_70 rfl rfl) ?_
  -- r1.2 t5 := geq t4 C1
  refine ol_pure rfl (op_geq rfl rfl) ?_
  -- r1.3 t6 := move  t5
  refine ol_pure rfl (op_move rfl) ?_
  refine ol_split (fun h6 => ?_) (fun h6 => ?_)
  · skip
    try simp only [decide_eq_true_eq, decide_eq_false_iff_not, Bool.not_eq_true', Bool.not_eq_false', Bool.not_eq_eq_eq_not, Bool.not_true, Bool.not_false] at h6
    -- r1.4 t7 := move  t0 ?3=True
    refine ol_guard_pure rfl rfl rfl (op_move rfl) ?_
    -- r1.5 t8 := call len t7 ?3=True
    refine ol_guard_pure rfl rfl rfl (op_len sl_70 rfl rfl) ?_
    -- r1.6 t9 := leq t8 C200 ?3=True
    refine ol_guard_pure rfl rfl rfl (op_leq rfl rfl) ?_
    -- r1.7 t10 := pick  t6 t9 Cfalse
    refine ol_pure rfl (op_pick_t rfl rfl) ?_
    -- r1.8 t11 := move  t10
    refine ol_pure rfl (op_move rfl) ?_
    refine ol_split (fun h11 => ?_) (fun h11 => ?_)
    · skip
      try simp only [decide_eq_true_eq, decide_eq_false_iff_not, Bool.not_eq_true', Bool.not_eq_false', Bool.not_eq_eq_eq_not, Bool.not_true, Bool.not_false] at h11
      -- r1.9 t12 := move  t0 ?8=True
      refine ol_guard_pure rfl rfl rfl (op_move rfl) ?_
      -- r1.10 t13 := call f72 t12 C0 ?8=True
      refine ol_guard_step rfl rfl rfl (op_call_sc hS cf_72 rfl (R01_End_c G _ hS.hold _ t h1 0 (Nat.zero_le _) (by omega))) ?_
      clear hS
      rintro _ w ⟨rfl, hS⟩
      -- r1.11 t14 := move  t0 ?8=True
      refine ol_guard_pure rfl rfl rfl (op_move rfl) ?_
      -- r1.12 t15 := call len t14 ?8=True
      refine ol_guard_pure rfl rfl rfl (op_len sl_70 rfl rfl) ?_
      -- r1.13 t16 := eql t13 t15 ?8=True
      refine ol_guard_pure rfl rfl rfl (op_eql rfl rfl) ?_
      -- r1.14 t17 := pick  t11 t16 Cfalse
      refine ol_pure rfl (op_pick_t rfl rfl) ?_
      -- r1.15 t2 := assign  t17
      refine ol_pure rfl (op_assign rfl) ?_
      refine ol_nil ?_
      refine pq_then ?_
      refine cw_ret ?_
      refine ret1 rfl rfl ?_
      -- ret1 h6t h11t
      have e1 : (1 : Nat) ≤ t.length := by omega
      have e2 : t.length ≤ 200 := by omega
      exact hS.sc_b (by unfold rightT; simp [e1, e2])
    · skip
      try simp only [decide_eq_true_eq, decide_eq_false_iff_not, Bool.not_eq_true', Bool.not_eq_false', Bool.not_eq_eq_eq_not, Bool.not_true, Bool.not_false] at h11
      refine ol_guard_no rfl rfl rfl rfl ?_
      refine ol_guard_no rfl rfl rfl rfl ?_
      refine ol_guard_no rfl rfl rfl rfl ?_
      refine ol_guard_no rfl rfl rfl rfl ?_
      refine ol_guard_no rfl rfl rfl rfl ?_
      -- r1.14 t17 := pick  t11 t16 Cfalse
      refine ol_pure rfl (op_pick_f rfl rfl) ?_
      -- r1.15 t2 := assign  t17
      refine ol_pure rfl (op_assign rfl) ?_
      refine ol_nil ?_
      refine pq_then ?_
      refine cw_ret ?_
      refine ret1 rfl rfl ?_
      -- ret1 h6t h11f
      exact hS.sc_b (by unfold rightT; simp; omega)
  · skip
    try simp only [decide_eq_true_eq, decide_eq_false_iff_not, Bool.not_eq_true', Bool.not_eq_false', Bool.not_eq_eq_eq_not, Bool.not_true, Bool.not_false] at h6
    refine ol_guard_no rfl rfl rfl rfl ?_
    refine ol_guard_no rfl rfl rfl rfl ?_
    refine ol_guard_no rfl rfl rfl rfl ?_
    -- r1.7 t10 := pick  t6 t9 Cfalse
    refine ol_pure rfl (op_pick_f rfl rfl) ?_
    -- r1.8 t11 := move  t10
    refine ol_pure rfl (op_move rfl) ?_
    refine ol_guard_no rfl rfl rfl rfl ?_
    refine ol_guard_no rfl rfl rfl rfl ?_
    refine ol_guard_no rfl rfl rfl rfl ?_
    refine ol_guard_no rfl rfl rfl rfl ?_
    refine ol_guard_no rfl rfl rfl rfl ?_
    -- r1.14 t17 := pick  t11 t16 Cfalse
    refine ol_pure rfl (op_pick_f rfl rfl) ?_
    -- r1.15 t2 := assign  t17
    refine ol_pure rfl (op_assign rfl) ?_
    refine ol_nil ?_
    refine pq_then ?_
    refine cw_ret ?_
    refine ret1 rfl rfl ?_
    -- ret1 h6f
    exact hS.sc_b (by unfold rightT; simp; omega)
set_option maxRecDepth 100000 in

theorem R07_Atom_c (G : GH) (w0 : World) (hG : Holds G w0) (v : Value) (t : List Cell) (h1 : RSl 3 ECell G v t)  :
    Calls Try.prog 40 #[v] w0 (Sc w0 (.bool (atomT t))) := by
  obtain ⟨oa, cc, rfl, hlc, hcm⟩ := h1.elim
  have hle := h1.le
  refine enter Try.func40 rfl (N := 12) rfl (Nat.le_of_ble_eq_true rfl) ?_
  have hS := SS.init hG
  refine cw_seq ?_
  refine cw_region ?_
  -- r0.0 t2 := assign  Cfalse
  refine ol_pure rfl (op_assign rfl) ?_
  refine ol_nil ?_
  refine pq_then ?_
  refine cw_seq ?_
  refine cw_region ?_
  -- r1.0 t3 := move  t0
  refine ol_pure rfl (op_move rfl) ?_
  -- r1.1 t4 := call f60 t3
  refine ol_step rfl (op_call_sc hS cf_60 rfl (R01_Right_c G _ hS.hold _ t h1)) ?_
  clear hS
  rintro _ w ⟨rfl, hS⟩
  -- r1.2 t5 := move  t4
  refine ol_pure rfl (op_move rfl) ?_
  refine ol_split (fun h5 => ?_) (fun h5 => ?_)
  · skip
    try simp only [decide_eq_true_eq, decide_eq_false_iff_not, Bool.not_eq_true', Bool.not_eq_false', Bool.not_eq_eq_eq_not, Bool.not_true, Bool.not_false] at h5
    have hlt : 0 < t.length := by simp [rightT] at h5; omega
    obtain ⟨hoa, hbd, hcells⟩ := h1.cellAt hlt
    -- r1.3 t6 := move  t0 ?2=True
    refine ol_guard_pure rfl rfl rfl (op_move rfl) ?_
    -- r1.4 t7 := indexAddr [70] t6 C0 ?2=True
    refine ol_guard_pure rfl rfl rfl (op_indexAddr sl_70 rfl rfl (by omega) (by omega) hoa) ?_
    -- r1.5 t8 := fieldAddr [69, 0] t7 ?2=True
    refine ol_guard_pure rfl rfl rfl (op_fieldAddr fld_69_0 rfl) ?_
    -- r1.6 t9 := load [3] t8 ?2=True
    refine ol_guard_load rfl rfl rfl (op_load1 one_3 rfl (fun w hw => hw.gcell (hcells 0 _ rfl))) hS ?_
    -- r1.7 t10 := eql t9 C3 ?2=True
    refine ol_guard_pure rfl rfl rfl (op_eql rfl rfl) ?_
    -- r1.8 t11 := pick  t5 t10 Cfalse
    refine ol_pure rfl (op_pick_t rfl rfl) ?_
    -- r1.9 t2 := assign  t11
    refine ol_pure rfl (op_assign rfl) ?_
    refine ol_nil ?_
    refine pq_then ?_
    refine cw_ret ?_
    refine ret1 rfl rfl ?_
    -- ret1 h5t
    cases t with
    | nil => simp at hlt
    | cons c t => exact hS.sc_b (by unfold atomT; rw [h5]; simp)
  · skip
    try simp only [decide_eq_true_eq, decide_eq_false_iff_not, Bool.not_eq_true', Bool.not_eq_false', Bool.not_eq_eq_eq_not, Bool.not_true, Bool.not_false] at h5
    refine ol_guard_no rfl rfl rfl rfl ?_
    refine ol_guard_no rfl rfl rfl rfl ?_
    refine ol_guard_no rfl rfl rfl rfl ?_
    refine ol_guard_no rfl rfl rfl rfl ?_
    refine ol_guard_no rfl rfl rfl rfl ?_
    -- r1.8 t11 := pick  t5 t10 Cfalse
    refine ol_pure rfl (op_pick_f rfl rfl) ?_
    -- r1.9 t2 := assign  t11
    refine ol_pure rfl (op_assign rfl) ?_
    refine ol_nil ?_
    refine pq_then ?_
    refine cw_ret ?_
    refine ret1 rfl rfl ?_
    -- ret1 h5f
    exact hS.sc_b (by unfold atomT; rw [h5]; rfl)
set_option maxRecDepth 100000 in
set_option maxHeartbeats 400000 in

theorem R01_Vars_c (G : GH) (w0 : World) (hG : Holds G w0) (v : Value) (t : List Cell) (h1 : RSl 3 ECell G v t) (ht : t.length ≤ 1000000) :
    Calls Try.prog 61 #[v] w0 (Rt noG w0 (fun G v => RSl 1 EInt G v (varsI t))) := by
  obtain ⟨oa, cc, rfl, hlc, hcm⟩ := h1.elim
  have hle := h1.le
  have hall := h1.nAll
  refine enter Try.func61 rfl (N := 37) rfl (Nat.le_of_ble_eq_true rfl) ?_
  have hS := SS.init hG
  refine cw_seq ?_
  refine cw_region ?_
  -- r0.0 t2 := assign  C(slice (none Addr) 0 0)
  refine ol_pure rfl (op_assign rfl) ?_
  refine ol_nil ?_
  refine pq_then ?_
  refine cw_seq ?_
  refine cw_region ?_
  -- r1.0 t5 := buildSlice [29, 0] 
  refine ol_step rfl (op_buildSlice (el := 3) (is := []) (xs := []) (sz := 1) (cs := []) hS rfl rfl (fun w => by kernel_rfl) rfl (by decide)) ?_
  clear hS
  rintro _ w ⟨o3, rfl, hS⟩
  -- r1.1 t3 := assign  t5
  refine ol_pure rfl (op_assign rfl) ?_
  refine ol_nil ?_
  refine pq_then ?_
  refine cw_seq ?_
  refine cw_seq ?_
  refine cw_region ?_
  -- r2.0 t4 := assign  C0
  refine ol_pure rfl (op_assign rfl) ?_
  refine ol_nil ?_
  refine pq_then ?_
  refine cw_block ?_
  refine cw_loop (fun e w n => ∃ k o3 l3 c3, e = [(0, .slice oa t.length cc), (3, .slice o3 l3 c3), (4, .int .i64 (k : Nat))] ∧ k ≤ t.length ∧ n = t.length - k ∧ l3 = (varsI (t.take k)).length ∧ SS G w0 G [.row o3 l3 c3 3 1 ((varsI (t.take k)).map (Value.int .i64))] w) _ _ (by exact ⟨0, o3, 0, _, rfl, Nat.zero_le _, rfl, rfl, hS⟩) ((Sub.cons rfl (Sub.cons rfl (Sub.cons rfl Sub.nil)))) ?_
  clear hS
  rintro e w n ⟨k, o3, l3, c3, rfl, hk, rfl, hl3, hS⟩
  refine cw_seq ?_
  refine cw_seq ?_
  refine cw_region ?_
  -- r3.0 t6 := move  t4
  refine ol_pure rfl (op_move rfl) ?_
  -- r3.1 t7 := move  t0
  refine ol_pure rfl (op_move rfl) ?_
  -- r3.2 t8 := call len t7
  refine ol_pure rfl (op_len sl_70 rfl rfl) ?_
  -- r3.3 t9 := lss t6 t8
  refine ol_pure rfl (op_lss rfl rfl) ?_
  refine ol_nil ?_
  refine pq_then ?_
  refine cw_cond rfl (fun h9 => ?_) (fun h9 => ?_)
  · skip
    try simp only [decide_eq_true_eq, decide_eq_false_iff_not, Bool.not_eq_true', Bool.not_eq_false', Bool.not_eq_eq_eq_not, Bool.not_true, Bool.not_false] at h9
    have hlt : k < t.length := by omega
    obtain ⟨hoa, hbd, hcells⟩ := h1.cellAt hlt
    have hvl := varsI_len t k
    refine cw_skip ?_
    refine pq_then ?_
    refine cw_seq ?_
    refine cw_block ?_
    refine cw_seq ?_
    refine cw_region ?_
    -- r5.0 t12 := move  t0
    refine ol_pure rfl (op_move rfl) ?_
    -- r5.1 t13 := move  t4
    refine ol_pure rfl (op_move rfl) ?_
    -- r5.2 t14 := indexAddr [70] t12 t13
    refine ol_pure rfl (op_indexN sl_70 rfl rfl (by omega) (by assumption)) ?_
    -- r5.3 t15 := fieldAddr [69, 0] t14
    refine ol_pure rfl (op_fieldAddr fld_69_0 rfl) ?_
    -- r5.4 t16 := load [3] t15
    refine ol_load rfl (op_load1 one_3 rfl (fun w hw => hw.gcell (hcells 0 _ rfl))) hS ?_
    -- r5.5 t17 := eql t16 C1
    refine ol_pure rfl (op_eql rfl rfl) ?_
    -- r5.6 t18 := move  t17
    refine ol_pure rfl (op_move rfl) ?_
    refine ol_split (fun h18 => ?_) (fun h18 => ?_)
    · skip
      try simp only [decide_eq_true_eq, decide_eq_false_iff_not, Bool.not_eq_true', Bool.not_eq_false', Bool.not_eq_eq_eq_not, Bool.not_true, Bool.not_false] at h18
      -- r5.7 t19 := move  t3 ?6=True
      refine ol_guard_pure rfl rfl rfl (op_move rfl) ?_
      -- r5.8 t20 := move  t0 ?6=True
      refine ol_guard_pure rfl rfl rfl (op_move rfl) ?_
      -- r5.9 t21 := move  t4 ?6=True
      refine ol_guard_pure rfl rfl rfl (op_move rfl) ?_
      -- r5.10 t22 := indexAddr [70] t20 t21 ?6=True
      refine ol_guard_pure rfl rfl rfl (op_indexN sl_70 rfl rfl (by omega) (by assumption)) ?_
      -- r5.11 t23 := fieldAddr [69, 2] t22 ?6=True
      refine ol_guard_pure rfl rfl rfl (op_fieldAddr fld_69_2 rfl) ?_
      -- r5.12 t24 := load [3] t23 ?6=True
      refine ol_guard_load rfl rfl rfl (op_load1 one_3 rfl (fun w hw => hw.gcell (hcells 2 _ rfl))) hS ?_
      -- r5.13 t25 := call f55 t19 t24 ?6=True
      have hlend := SS.lend [] hS (by decide) EInt.mono (Rows.of_map (E := EInt) (fun x hx => ⟨rfl, hall k x hx⟩)) hl3
      refine ol_guard_step rfl rfl rfl (op_call_sc hS cf_55 rfl (R01_In_c (fullG _) _ (Holds.full _) _ _ t[k].n hlend)) ?_
      clear hS
      rintro _ w ⟨rfl, hS⟩
      -- r5.14 t26 := not t25 ?6=True
      refine ol_guard_pure rfl rfl rfl (op_not rfl) ?_
      -- r5.15 t27 := pick  t18 t26 Cfalse
      refine ol_pure rfl (op_pick_t rfl rfl) ?_
      refine ol_nil ?_
      refine pq_then ?_
      refine cw_cond rfl (fun h27 => ?_) (fun h27 => ?_)
      · skip
        try simp only [decide_eq_true_eq, decide_eq_false_iff_not, Bool.not_eq_true', Bool.not_eq_false', Bool.not_eq_eq_eq_not, Bool.not_true, Bool.not_false] at h27
        refine cw_region ?_
        -- r6.0 t28 := move  t3
        refine ol_pure rfl (op_move rfl) ?_
        -- r6.1 t29 := move  t0
        refine ol_pure rfl (op_move rfl) ?_
        -- r6.2 t30 := move  t4
        refine ol_pure rfl (op_move rfl) ?_
        -- r6.3 t31 := indexAddr [70] t29 t30
        refine ol_pure rfl (op_indexN sl_70 rfl rfl (by omega) (by assumption)) ?_
        -- r6.4 t32 := fieldAddr [69, 2] t31
        refine ol_pure rfl (op_fieldAddr fld_69_2 rfl) ?_
        -- r6.5 t33 := load [3] t32
        refine ol_load rfl (op_load1 one_3 rfl (fun w hw => hw.gcell (hcells 2 _ rfl))) hS ?_
        -- r6.6 t34 := buildSlice [29, 1] 0:t33
        refine ol_step rfl (op_buildSlice (el := 3) (is := [0]) (xs := [.tmp 33]) (sz := 1) (cs := [.int .i64 t[k].n]) hS rfl rfl (fun w => by kernel_rfl) rfl (by decide)) ?_
        clear hS
        rintro _ w ⟨s34, rfl, hS⟩
        -- r6.7 t35 := call append t28 t34
        refine ol_step rfl (op_append (j := 1) hS sl_29 el_3 rfl rfl rfl rfl rfl rfl (by decide) (hS.news (j := 0) rfl) (by simp [Value.oneCell']) (by omega) (by unfold maxLen; omega)) ?_
        clear hS
        rintro _ w ⟨o3n, c_o3n, rfl, hS⟩; (try simp only [List.nil_append, List.cons_append, List.set] at hS); replace hS := SS.drop [] hS; (try simp only [List.nil_append, List.cons_append] at hS)
        -- r6.8 t3 := assign  t35
        refine ol_pure rfl (op_assign rfl) ?_
        refine ol_nil ?_
        refine pq_in_normal ?_
        refine pq_then ?_
        refine cw_region ?_
        -- r4.0 t10 := move  t4
        refine ol_pure rfl (op_move rfl) ?_
        -- r4.1 t11 := add t10 C1
        refine ol_pure rfl (op_add rfl rfl (by omega) (by omega)) ?_
        -- r4.2 t4 := assign  t11
        refine ol_pure rfl (op_assign rfl) ?_
        refine ol_nil ?_
        -- end of round 1 h9t h18t h27t
        refine pq_loop _ _ (by exact ⟨k + 1, o3n, l3 + 1, c_o3n, rfl, by omega, rfl, by rw [varsI_succ hlt, if_pos ⟨h18, by simpa using h27⟩]; simp [hl3], by rw [varsI_succ hlt, if_pos ⟨h18, by simpa using h27⟩]; simpa using hS⟩) ((Sub.cons rfl (Sub.cons rfl (Sub.cons rfl Sub.nil)))) (by omega)
      · skip
        try simp only [decide_eq_true_eq, decide_eq_false_iff_not, Bool.not_eq_true', Bool.not_eq_false', Bool.not_eq_eq_eq_not, Bool.not_true, Bool.not_false] at h27
        refine cw_skip ?_
        refine pq_in_normal ?_
        refine pq_then ?_
        refine cw_region ?_
        -- r4.0 t10 := move  t4
        refine ol_pure rfl (op_move rfl) ?_
        -- r4.1 t11 := add t10 C1
        refine ol_pure rfl (op_add rfl rfl (by omega) (by omega)) ?_
        -- r4.2 t4 := assign  t11
        refine ol_pure rfl (op_assign rfl) ?_
        refine ol_nil ?_
        -- end of round 1 h9t h18t h27f
        refine pq_loop _ _ (by exact ⟨k + 1, o3, l3, c3, rfl, by omega, rfl, by rw [varsI_succ hlt, if_neg (fun hh => hh.2 (by simpa using h27))]; exact hl3, by rw [varsI_succ hlt, if_neg (fun hh => hh.2 (by simpa using h27))]; exact hS⟩) ((Sub.cons rfl (Sub.cons rfl (Sub.cons rfl Sub.nil)))) (by omega)
    · skip
      try simp only [decide_eq_true_eq, decide_eq_false_iff_not, Bool.not_eq_true', Bool.not_eq_false', Bool.not_eq_eq_eq_not, Bool.not_true, Bool.not_false] at h18
      refine ol_guard_no rfl rfl rfl rfl ?_
      refine ol_guard_no rfl rfl rfl rfl ?_
      refine ol_guard_no rfl rfl rfl rfl ?_
      refine ol_guard_no rfl rfl rfl rfl ?_
      refine ol_guard_no rfl rfl rfl rfl ?_
      refine ol_guard_no rfl rfl rfl rfl ?_
      refine ol_guard_no rfl rfl rfl rfl ?_
      refine ol_guard_no rfl rfl rfl rfl ?_
      -- r5.15 t27 := pick  t18 t26 Cfalse
      refine ol_pure rfl (op_pick_f rfl rfl) ?_
      refine ol_nil ?_
      refine pq_then ?_
      refine cw_cond_f rfl ?_
      refine cw_skip ?_
      refine pq_in_normal ?_
      refine pq_then ?_
      refine cw_region ?_
      -- r4.0 t10 := move  t4
      refine ol_pure rfl (op_move rfl) ?_
      -- r4.1 t11 := add t10 C1
      refine ol_pure rfl (op_add rfl rfl (by omega) (by omega)) ?_
      -- r4.2 t4 := assign  t11
      refine ol_pure rfl (op_assign rfl) ?_
      refine ol_nil ?_
      -- end of round 1 h9t h18f
      refine pq_loop _ _ (by exact ⟨k + 1, o3, l3, c3, rfl, by omega, rfl, by rw [varsI_succ hlt, if_neg (fun hh => h18 hh.1)]; exact hl3, by rw [varsI_succ hlt, if_neg (fun hh => h18 hh.1)]; exact hS⟩) ((Sub.cons rfl (Sub.cons rfl (Sub.cons rfl Sub.nil)))) (by omega)
  · skip
    try simp only [decide_eq_true_eq, decide_eq_false_iff_not, Bool.not_eq_true', Bool.not_eq_false', Bool.not_eq_eq_eq_not, Bool.not_true, Bool.not_false] at h9
    refine cw_exit ?_
    refine pq_exit ?_
    refine pq_exit ?_
    refine pq_in_exit ?_
    refine pq_then ?_
    refine cw_seq ?_
    refine cw_region ?_
    -- r7.0 t36 := move  t3
    refine ol_pure rfl (op_move rfl) ?_
    -- r7.1 t2 := assign  t36
    refine ol_pure rfl (op_assign rfl) ?_
    refine ol_nil ?_
    refine pq_then ?_
    refine cw_ret ?_
    refine ret1 rfl rfl ?_
    -- ret1 h9f
    rw [List.take_of_length_le (by omega : t.length ≤ k)] at hS hl3
    exact hS.rt_row [] (by decide) (Rows.of_map (fun x hx => ⟨rfl, hall t.length x (by rw [List.take_length]; exact hx)⟩)) EInt.mono hl3
set_option maxRecDepth 100000 in

theorem R01_Ground_c (G : GH) (w0 : World) (hG : Holds G w0) (v : Value) (t : List Cell) (h1 : RSl 3 ECell G v t) (ht : t.length ≤ 1000000) :
    Calls Try.prog 41 #[v] w0 (Sc w0 (.bool (groundT t))) := by
  obtain ⟨oa, cc, rfl, hlc, hcm⟩ := h1.elim
  have hle := h1.le
  refine enter Try.func41 rfl (N := 7) rfl (Nat.le_of_ble_eq_true rfl) ?_
  have hS := SS.init hG
  refine cw_seq ?_
  refine cw_region ?_
  -- r0.0 t2 := assign  Cfalse
  refine ol_pure rfl (op_assign rfl) ?_
  refine ol_nil ?_
  refine pq_then ?_
  refine cw_seq ?_
  refine cw_region ?_
  -- r1.0 t3 := move  t0
  refine ol_pure rfl (op_move rfl) ?_
  -- r1.1 t4 := call f61 t3
  refine ol_step rfl (op_call_fr hS cf_61 rfl (R01_Vars_c G _ hS.hold _ t h1 ht)) ?_
  clear hS
  rintro v4 w ⟨F4, G1, hR4, hF4, hf4, hl4, hS⟩
  obtain ⟨oV, cV, rfl, hlV, hmV⟩ := hR4.elim
  -- r1.2 t5 := call len t4
  refine ol_pure rfl (op_len sl_29 rfl rfl) ?_
  -- r1.3 t6 := eql t5 C0
  refine ol_pure rfl (op_eql rfl rfl) ?_
  -- r1.4 t2 := assign  t6
  refine ol_pure rfl (op_assign rfl) ?_
  refine ol_nil ?_
  refine pq_then ?_
  refine cw_ret ?_
  refine ret1 rfl rfl ?_
  -- ret1 
  exact hS.sc_b rfl
set_option maxRecDepth 100000 in
set_option maxHeartbeats 400000 in

theorem R01_Compare_c (G : GH) (w0 : World) (hG : Holds G w0) (v u : Value) (a b : List Cell) (h1 : RSl 3 ECell G v a) (h2 : RSl 3 ECell G u b)  :
    Calls Try.prog 42 #[v, u] w0 (Sc w0 (.int .i64 (cmpT a b))) := by
  obtain ⟨oa, ca, rfl, hla, hma⟩ := h1.elim
  obtain ⟨ob, cb, rfl, hlb, hmb⟩ := h2.elim
  have hle1 := h1.le
  have hle2 := h2.le
  refine enter Try.func42 rfl (N := 64) rfl (Nat.le_of_ble_eq_true rfl) ?_
  have hS := SS.init hG
  refine cw_seq ?_
  refine cw_region ?_
  -- r0.0 t4 := assign  C0
  refine ol_pure rfl (op_assign rfl) ?_
  refine ol_nil ?_
  refine pq_then ?_
  refine cw_seq ?_
  refine cw_seq ?_
  refine cw_region ?_
  -- r1.0 t5 := assign  C0
  refine ol_pure rfl (op_assign rfl) ?_
  refine ol_nil ?_
  refine pq_then ?_
  refine cw_block ?_
  refine cw_loop (fun e w n => ∃ k : Nat, e = [(0, .slice oa a.length ca), (1, .slice ob b.length cb), (5, .int .i64 (k : Nat))] ∧ k ≤ a.length ∧ n = a.length - k ∧ cmpT a b = cmpT (a.drop k) (b.drop k) ∧ SS G w0 G [] w) _ _ (by exact ⟨0, rfl, Nat.zero_le _, rfl, rfl, hS⟩) ((Sub.cons rfl (Sub.cons rfl (Sub.cons rfl Sub.nil)))) ?_
  clear hS
  rintro e w n ⟨k, rfl, hk, rfl, hp, hS⟩
  refine cw_seq ?_
  refine cw_seq ?_
  refine cw_region ?_
  -- r2.0 t8 := move  t5
  refine ol_pure rfl (op_move rfl) ?_
  -- r2.1 t9 := move  t0
  refine ol_pure rfl (op_move rfl) ?_
  -- r2.2 t10 := call len t9
  refine ol_pure rfl (op_len sl_70 rfl rfl) ?_
  -- r2.3 t11 := lss t8 t10
  refine ol_pure rfl (op_lss rfl rfl) ?_
  -- r2.4 t12 := move  t11
  refine ol_pure rfl (op_move rfl) ?_
  refine ol_split (fun h12 => ?_) (fun h12 => ?_)
  · skip
    try simp only [decide_eq_true_eq, decide_eq_false_iff_not, Bool.not_eq_true', Bool.not_eq_false', Bool.not_eq_eq_eq_not, Bool.not_true, Bool.not_false] at h12
    -- r2.5 t13 := move  t5 ?4=True
    refine ol_guard_pure rfl rfl rfl (op_move rfl) ?_
    -- r2.6 t14 := move  t1 ?4=True
    refine ol_guard_pure rfl rfl rfl (op_move rfl) ?_
    -- r2.7 t15 := call len t14 ?4=True
    refine ol_guard_pure rfl rfl rfl (op_len sl_70 rfl rfl) ?_
    -- r2.8 t16 := lss t13 t15 ?4=True
    refine ol_guard_pure rfl rfl rfl (op_lss rfl rfl) ?_
    -- r2.9 t17 := pick  t12 t16 Cfalse
    refine ol_pure rfl (op_pick_t rfl rfl) ?_
    refine ol_nil ?_
    refine pq_then ?_
    refine cw_cond rfl (fun h17 => ?_) (fun h17 => ?_)
    · skip
      try simp only [decide_eq_true_eq, decide_eq_false_iff_not, Bool.not_eq_true', Bool.not_eq_false', Bool.not_eq_eq_eq_not, Bool.not_true, Bool.not_false] at h17
      have ha : k < a.length := by omega
      have hb : k < b.length := by omega
      obtain ⟨hoa, hbd1, hc1⟩ := h1.cellAt ha
      obtain ⟨hob, hbd2, hc2⟩ := h2.cellAt hb
      refine cw_skip ?_
      refine pq_then ?_
      refine cw_seq ?_
      refine cw_block ?_
      refine cw_seq ?_
      refine cw_region ?_
      -- r4.0 t20 := move  t0
      refine ol_pure rfl (op_move rfl) ?_
      -- r4.1 t21 := move  t5
      refine ol_pure rfl (op_move rfl) ?_
      -- r4.2 t22 := indexAddr [70] t20 t21
      refine ol_pure rfl (op_indexN sl_70 rfl rfl (by omega) (by assumption)) ?_
      -- r4.3 t23 := load [69] t22
      refine ol_load rfl (op_loadN agg_69 rfl (by rfl) (fun w hw k u hk => hw.gcell (hc1 k u hk))) hS ?_
      -- r4.4 t6 := alloc [69] 
      refine ol_step rfl (op_alloc hS el_69 rfl) ?_
      clear hS
      rintro _ w ⟨b6, rfl, hS⟩
      -- r4.5 _ := store [69] t6 t23
      refine ol_step0  (op_storeN (j := 0) hS sz_69 rfl rfl rfl rfl rfl (by simp [Value.oneCell'])) ?_
      clear hS
      rintro _ w hS; (try simp only [List.nil_append, List.cons_append, List.set] at hS)
      refine ol_nil ?_
      refine pq_then ?_
      refine cw_seq ?_
      refine cw_region ?_
      -- r5.0 t24 := move  t1
      refine ol_pure rfl (op_move rfl) ?_
      -- r5.1 t25 := move  t5
      refine ol_pure rfl (op_move rfl) ?_
      -- r5.2 t26 := indexAddr [70] t24 t25
      refine ol_pure rfl (op_indexN sl_70 rfl rfl (by omega) (by assumption)) ?_
      -- r5.3 t27 := load [69] t26
      refine ol_load rfl (op_loadN agg_69 rfl (by rfl) (fun w hw k u hk => hw.gcell (hc2 k u hk))) hS ?_
      -- r5.4 t7 := alloc [69] 
      refine ol_step rfl (op_alloc hS el_69 rfl) ?_
      clear hS
      rintro _ w ⟨b7, rfl, hS⟩
      -- r5.5 _ := store [69] t7 t27
      refine ol_step0  (op_storeN (j := 0) hS sz_69 rfl rfl rfl rfl rfl (by simp [Value.oneCell'])) ?_
      clear hS
      rintro _ w hS; (try simp only [List.nil_append, List.cons_append, List.set] at hS)
      refine ol_nil ?_
      refine pq_then ?_
      refine cw_seq ?_
      refine cw_seq ?_
      refine cw_region ?_
      -- r6.0 t28 := load [69] t6
      refine ol_load rfl (op_loadN agg_69 rfl (by rfl) (fun w hw k u hk => (hw.bcell (i := 1) rfl).trans hk)) hS ?_
      -- r6.1 t29 := load [69] t7
      refine ol_load rfl (op_loadN agg_69 rfl (by rfl) (fun w hw k u hk => (hw.bcell (i := 0) rfl).trans hk)) hS ?_
      -- r6.2 t30 := eql t28 t29
      refine ol_pure rfl (op_eqlC cell_69 rfl rfl) ?_
      refine ol_nil ?_
      refine pq_then ?_
      refine cw_cond rfl (fun h30 => ?_) (fun h30 => ?_)
      · skip
        try simp only [decide_eq_true_eq, decide_eq_false_iff_not, Bool.not_eq_true', Bool.not_eq_false', Bool.not_eq_eq_eq_not, Bool.not_true, Bool.not_false] at h30
        have hsame : sameC a[k] b[k] = true := h30
        refine cw_exit ?_
        refine pq_exit ?_
        refine pq_in_exit ?_
        refine pq_then ?_
        refine cw_region ?_
        -- r3.0 t18 := move  t5
        refine ol_pure rfl (op_move rfl) ?_
        -- r3.1 t19 := add t18 C1
        refine ol_pure rfl (op_add rfl rfl (by omega) (by omega)) ?_
        -- r3.2 t5 := assign  t19
        refine ol_pure rfl (op_assign rfl) ?_
        refine ol_nil ?_
        -- end of round 1 h12t h17t h30t
        refine pq_loop _ _ (by exact (by replace hS := SS.drop [] (SS.drop [] hS); exact ⟨k + 1, rfl, by omega, rfl, by rw [hp, cmpT_at ha hb, if_pos hsame], hS⟩)) ((Sub.cons rfl (Sub.cons rfl (Sub.cons rfl Sub.nil)))) (by omega)
      · skip
        try simp only [decide_eq_true_eq, decide_eq_false_iff_not, Bool.not_eq_true', Bool.not_eq_false', Bool.not_eq_eq_eq_not, Bool.not_true, Bool.not_false] at h30
        have hns : ¬ sameC a[k] b[k] = true := fun hh => by rw [show sameC a[k] b[k] = false from h30] at hh; cases hh
        refine cw_skip ?_
        refine pq_then ?_
        refine cw_seq ?_
        refine cw_seq ?_
        refine cw_region ?_
        -- r7.0 t31 := fieldAddr [69, 0] t6
        refine ol_pure rfl (op_fieldAddr fld_69_0 rfl) ?_
        -- r7.1 t32 := load [3] t31
        refine ol_load rfl (op_load1 one_3 rfl (fun w hw => (hw.bcell (i := 1) rfl).trans rfl)) hS ?_
        -- r7.2 t33 := fieldAddr [69, 0] t7
        refine ol_pure rfl (op_fieldAddr fld_69_0 rfl) ?_
        -- r7.3 t34 := load [3] t33
        refine ol_load rfl (op_load1 one_3 rfl (fun w hw => (hw.bcell (i := 0) rfl).trans rfl)) hS ?_
        -- r7.4 t35 := lss t32 t34
        refine ol_pure rfl (op_lss rfl rfl) ?_
        -- r7.5 t36 := move  t35
        refine ol_pure rfl (op_move rfl) ?_
        refine ol_split (fun h36 => ?_) (fun h36 => ?_)
        · skip
          try simp only [decide_eq_true_eq, decide_eq_false_iff_not, Bool.not_eq_true', Bool.not_eq_false', Bool.not_eq_eq_eq_not, Bool.not_true, Bool.not_false] at h36
          refine ol_guard_no rfl rfl rfl rfl ?_
          refine ol_guard_no rfl rfl rfl rfl ?_
          refine ol_guard_no rfl rfl rfl rfl ?_
          refine ol_guard_no rfl rfl rfl rfl ?_
          refine ol_guard_no rfl rfl rfl rfl ?_
          refine ol_guard_no rfl rfl rfl rfl ?_
          refine ol_guard_undef rfl rfl rfl ?_
          refine ol_guard_undef rfl rfl rfl ?_
          refine ol_guard_undef rfl rfl rfl ?_
          refine ol_guard_undef rfl rfl rfl ?_
          refine ol_guard_undef rfl rfl rfl ?_
          refine ol_guard_undef rfl rfl rfl ?_
          refine ol_guard_undef rfl rfl rfl ?_
          refine ol_guard_undef rfl rfl rfl ?_
          refine ol_guard_undef rfl rfl rfl ?_
          refine ol_guard_undef rfl rfl rfl ?_
          refine ol_guard_undef rfl rfl rfl ?_
          refine ol_guard_undef rfl rfl rfl ?_
          refine ol_guard_undef rfl rfl rfl ?_
          refine ol_guard_undef rfl rfl rfl ?_
          refine ol_guard_undef rfl rfl rfl ?_
          refine ol_guard_undef rfl rfl rfl ?_
          refine ol_guard_undef rfl rfl rfl ?_
          refine ol_guard_undef rfl rfl rfl ?_
          refine ol_guard_undef rfl rfl rfl ?_
          refine ol_guard_no rfl rfl rfl rfl ?_
          -- r7.32 t63 := pick  t36 Ctrue t62
          refine ol_pure rfl (op_pick_t rfl rfl) ?_
          refine ol_nil ?_
          refine pq_then ?_
          refine cw_cond_t rfl ?_
          refine cw_seq ?_
          refine cw_region ?_
          -- r8.0 t4 := assign  C-1
          refine ol_pure rfl (op_assign rfl) ?_
          refine ol_nil ?_
          refine pq_then ?_
          refine cw_ret ?_
          refine pq_ret ?_
          refine pq_in_ret ?_
          refine pq_ret ?_
          refine pq_ret ?_
          refine pq_in_ret ?_
          refine pq_ret ?_
          refine ret1 rfl rfl ?_
          -- ret1 h12t h17t h30f h36t
          exact hS.sc_i (by rw [hp, cmpT_at ha hb, if_neg hns, if_pos (by unfold ltC; simp_all)])
        · skip
          try simp only [decide_eq_true_eq, decide_eq_false_iff_not, Bool.not_eq_true', Bool.not_eq_false', Bool.not_eq_eq_eq_not, Bool.not_true, Bool.not_false] at h36
          -- r7.6 t37 := fieldAddr [69, 0] t6 ?5=False
          refine ol_guard_pure rfl rfl rfl (op_fieldAddr fld_69_0 rfl) ?_
          -- r7.7 t38 := load [3] t37 ?5=False
          refine ol_guard_load rfl rfl rfl (op_load1 one_3 rfl (fun w hw => (hw.bcell (i := 1) rfl).trans rfl)) hS ?_
          -- r7.8 t39 := fieldAddr [69, 0] t7 ?5=False
          refine ol_guard_pure rfl rfl rfl (op_fieldAddr fld_69_0 rfl) ?_
          -- r7.9 t40 := load [3] t39 ?5=False
          refine ol_guard_load rfl rfl rfl (op_load1 one_3 rfl (fun w hw => (hw.bcell (i := 0) rfl).trans rfl)) hS ?_
          -- r7.10 t41 := eql t38 t40 ?5=False
          refine ol_guard_pure rfl rfl rfl (op_eql rfl rfl) ?_
          -- r7.11 t42 := move  t41 ?5=False
          refine ol_guard_pure rfl rfl rfl (op_move rfl) ?_
          refine ol_split (fun h42 => ?_) (fun h42 => ?_)
          · skip
            try simp only [decide_eq_true_eq, decide_eq_false_iff_not, Bool.not_eq_true', Bool.not_eq_false', Bool.not_eq_eq_eq_not, Bool.not_true, Bool.not_false] at h42
            -- r7.12 t43 := fieldAddr [69, 2] t6 ?11=True
            refine ol_guard_pure rfl rfl rfl (op_fieldAddr fld_69_2 rfl) ?_
            -- r7.13 t44 := load [3] t43 ?11=True
            refine ol_guard_load rfl rfl rfl (op_load1 one_3 rfl (fun w hw => (hw.bcell (i := 1) rfl).trans rfl)) hS ?_
            -- r7.14 t45 := fieldAddr [69, 2] t7 ?11=True
            refine ol_guard_pure rfl rfl rfl (op_fieldAddr fld_69_2 rfl) ?_
            -- r7.15 t46 := load [3] t45 ?11=True
            refine ol_guard_load rfl rfl rfl (op_load1 one_3 rfl (fun w hw => (hw.bcell (i := 0) rfl).trans rfl)) hS ?_
            -- r7.16 t47 := lss t44 t46 ?11=True
            refine ol_guard_pure rfl rfl rfl (op_lss rfl rfl) ?_
            -- r7.17 t48 := move  t47 ?11=True
            refine ol_guard_pure rfl rfl rfl (op_move rfl) ?_
            refine ol_split (fun h48 => ?_) (fun h48 => ?_)
            · skip
              try simp only [decide_eq_true_eq, decide_eq_false_iff_not, Bool.not_eq_true', Bool.not_eq_false', Bool.not_eq_eq_eq_not, Bool.not_true, Bool.not_false] at h48
              refine ol_guard_no rfl rfl rfl rfl ?_
              refine ol_guard_no rfl rfl rfl rfl ?_
              refine ol_guard_no rfl rfl rfl rfl ?_
              refine ol_guard_no rfl rfl rfl rfl ?_
              refine ol_guard_no rfl rfl rfl rfl ?_
              refine ol_guard_no rfl rfl rfl rfl ?_
              refine ol_guard_undef rfl rfl rfl ?_
              refine ol_guard_undef rfl rfl rfl ?_
              refine ol_guard_undef rfl rfl rfl ?_
              refine ol_guard_undef rfl rfl rfl ?_
              refine ol_guard_undef rfl rfl rfl ?_
              refine ol_guard_no rfl rfl rfl rfl ?_
              -- r7.30 t61 := pick  t48 Ctrue t60 ?11=True
              refine ol_guard_pure rfl rfl rfl (op_pick_t rfl rfl) ?_
              -- r7.31 t62 := pick  t42 t61 Cfalse ?5=False
              refine ol_guard_pure rfl rfl rfl (op_pick_t rfl rfl) ?_
              -- r7.32 t63 := pick  t36 Ctrue t62
              refine ol_pure rfl (op_pick_f rfl rfl) ?_
              refine ol_nil ?_
              refine pq_then ?_
              refine cw_cond_t rfl ?_
              refine cw_seq ?_
              refine cw_region ?_
              -- r8.0 t4 := assign  C-1
              refine ol_pure rfl (op_assign rfl) ?_
              refine ol_nil ?_
              refine pq_then ?_
              refine cw_ret ?_
              refine pq_ret ?_
              refine pq_in_ret ?_
              refine pq_ret ?_
              refine pq_ret ?_
              refine pq_in_ret ?_
              refine pq_ret ?_
              refine ret1 rfl rfl ?_
              -- ret1 h12t h17t h30f h36f h42t h48t
              exact hS.sc_i (by rw [hp, cmpT_at ha hb, if_neg hns, if_pos (by unfold ltC; simp_all)])
            · skip
              try simp only [decide_eq_true_eq, decide_eq_false_iff_not, Bool.not_eq_true', Bool.not_eq_false', Bool.not_eq_eq_eq_not, Bool.not_true, Bool.not_false] at h48
              -- r7.18 t49 := fieldAddr [69, 2] t6 ?17=False
              refine ol_guard_pure rfl rfl rfl (op_fieldAddr fld_69_2 rfl) ?_
              -- r7.19 t50 := load [3] t49 ?17=False
              refine ol_guard_load rfl rfl rfl (op_load1 one_3 rfl (fun w hw => (hw.bcell (i := 1) rfl).trans rfl)) hS ?_
              -- r7.20 t51 := fieldAddr [69, 2] t7 ?17=False
              refine ol_guard_pure rfl rfl rfl (op_fieldAddr fld_69_2 rfl) ?_
              -- r7.21 t52 := load [3] t51 ?17=False
              refine ol_guard_load rfl rfl rfl (op_load1 one_3 rfl (fun w hw => (hw.bcell (i := 0) rfl).trans rfl)) hS ?_
              -- r7.22 t53 := eql t50 t52 ?17=False
              refine ol_guard_pure rfl rfl rfl (op_eql rfl rfl) ?_
              -- r7.23 t54 := move  t53 ?17=False
              refine ol_guard_pure rfl rfl rfl (op_move rfl) ?_
              refine ol_split (fun h54 => ?_) (fun h54 => ?_)
              · skip
                try simp only [decide_eq_true_eq, decide_eq_false_iff_not, Bool.not_eq_true', Bool.not_eq_false', Bool.not_eq_eq_eq_not, Bool.not_true, Bool.not_false] at h54
                -- r7.24 t55 := fieldAddr [69, 1] t6 ?23=True
                refine ol_guard_pure rfl rfl rfl (op_fieldAddr fld_69_1 rfl) ?_
                -- r7.25 t56 := load [9] t55 ?23=True
                refine ol_guard_load rfl rfl rfl (op_load1 one_9 rfl (fun w hw => (hw.bcell (i := 1) rfl).trans rfl)) hS ?_
                -- r7.26 t57 := fieldAddr [69, 1] t7 ?23=True
                refine ol_guard_pure rfl rfl rfl (op_fieldAddr fld_69_1 rfl) ?_
                -- r7.27 t58 := load [9] t57 ?23=True
                refine ol_guard_load rfl rfl rfl (op_load1 one_9 rfl (fun w hw => (hw.bcell (i := 0) rfl).trans rfl)) hS ?_
                -- r7.28 t59 := lss t56 t58 ?23=True
                refine ol_guard_pure rfl rfl rfl (op_lssS rfl rfl) ?_
                -- r7.29 t60 := pick  t54 t59 Cfalse ?17=False
                refine ol_guard_pure rfl rfl rfl (op_pick_t rfl rfl) ?_
                -- r7.30 t61 := pick  t48 Ctrue t60 ?11=True
                refine ol_guard_pure rfl rfl rfl (op_pick_f rfl rfl) ?_
                -- r7.31 t62 := pick  t42 t61 Cfalse ?5=False
                refine ol_guard_pure rfl rfl rfl (op_pick_t rfl rfl) ?_
                -- r7.32 t63 := pick  t36 Ctrue t62
                refine ol_pure rfl (op_pick_f rfl rfl) ?_
                refine ol_nil ?_
                refine pq_then ?_
                refine cw_cond rfl (fun h63 => ?_) (fun h63 => ?_)
                · skip
                  try simp only [decide_eq_true_eq, decide_eq_false_iff_not, Bool.not_eq_true', Bool.not_eq_false', Bool.not_eq_eq_eq_not, Bool.not_true, Bool.not_false] at h63
                  refine cw_seq ?_
                  refine cw_region ?_
                  -- r8.0 t4 := assign  C-1
                  refine ol_pure rfl (op_assign rfl) ?_
                  refine ol_nil ?_
                  refine pq_then ?_
                  refine cw_ret ?_
                  refine pq_ret ?_
                  refine pq_in_ret ?_
                  refine pq_ret ?_
                  refine pq_ret ?_
                  refine pq_in_ret ?_
                  refine pq_ret ?_
                  refine ret1 rfl rfl ?_
                  -- ret1 h12t h17t h30f h36f h42t h48f h54t h63t
                  exact hS.sc_i (by rw [hp, cmpT_at ha hb, if_neg hns, if_pos (by unfold ltC; simp_all)])
                · skip
                  try simp only [decide_eq_true_eq, decide_eq_false_iff_not, Bool.not_eq_true', Bool.not_eq_false', Bool.not_eq_eq_eq_not, Bool.not_true, Bool.not_false] at h63
                  refine cw_skip ?_
                  refine pq_then ?_
                  refine cw_seq ?_
                  refine cw_region ?_
                  -- r9.0 t4 := assign  C1
                  refine ol_pure rfl (op_assign rfl) ?_
                  refine ol_nil ?_
                  refine pq_then ?_
                  refine cw_ret ?_
                  refine pq_in_ret ?_
                  refine pq_ret ?_
                  refine pq_ret ?_
                  refine pq_in_ret ?_
                  refine pq_ret ?_
                  refine ret1 rfl rfl ?_
                  -- ret2 h12t h17t h30f h36f h42t h48f h54t h63f
                  exact hS.sc_i (by rw [hp, cmpT_at ha hb, if_neg hns, if_neg (by unfold ltC; simp_all)])
              · skip
                try simp only [decide_eq_true_eq, decide_eq_false_iff_not, Bool.not_eq_true', Bool.not_eq_false', Bool.not_eq_eq_eq_not, Bool.not_true, Bool.not_false] at h54
                refine ol_guard_no rfl rfl rfl rfl ?_
                refine ol_guard_no rfl rfl rfl rfl ?_
                refine ol_guard_no rfl rfl rfl rfl ?_
                refine ol_guard_no rfl rfl rfl rfl ?_
                refine ol_guard_no rfl rfl rfl rfl ?_
                -- r7.29 t60 := pick  t54 t59 Cfalse ?17=False
                refine ol_guard_pure rfl rfl rfl (op_pick_f rfl rfl) ?_
                -- r7.30 t61 := pick  t48 Ctrue t60 ?11=True
                refine ol_guard_pure rfl rfl rfl (op_pick_f rfl rfl) ?_
                -- r7.31 t62 := pick  t42 t61 Cfalse ?5=False
                refine ol_guard_pure rfl rfl rfl (op_pick_t rfl rfl) ?_
                -- r7.32 t63 := pick  t36 Ctrue t62
                refine ol_pure rfl (op_pick_f rfl rfl) ?_
                refine ol_nil ?_
                refine pq_then ?_
                refine cw_cond_f rfl ?_
                refine cw_skip ?_
                refine pq_then ?_
                refine cw_seq ?_
                refine cw_region ?_
                -- r9.0 t4 := assign  C1
                refine ol_pure rfl (op_assign rfl) ?_
                refine ol_nil ?_
                refine pq_then ?_
                refine cw_ret ?_
                refine pq_in_ret ?_
                refine pq_ret ?_
                refine pq_ret ?_
                refine pq_in_ret ?_
                refine pq_ret ?_
                refine ret1 rfl rfl ?_
                -- ret2 h12t h17t h30f h36f h42t h48f h54f
                exact hS.sc_i (by rw [hp, cmpT_at ha hb, if_neg hns, if_neg (by unfold ltC; simp_all)])
          · skip
            try simp only [decide_eq_true_eq, decide_eq_false_iff_not, Bool.not_eq_true', Bool.not_eq_false', Bool.not_eq_eq_eq_not, Bool.not_true, Bool.not_false] at h42
            refine ol_guard_no rfl rfl rfl rfl ?_
            refine ol_guard_no rfl rfl rfl rfl ?_
            refine ol_guard_no rfl rfl rfl rfl ?_
            refine ol_guard_no rfl rfl rfl rfl ?_
            refine ol_guard_no rfl rfl rfl rfl ?_
            refine ol_guard_no rfl rfl rfl rfl ?_
            refine ol_guard_undef rfl rfl rfl ?_
            refine ol_guard_undef rfl rfl rfl ?_
            refine ol_guard_undef rfl rfl rfl ?_
            refine ol_guard_undef rfl rfl rfl ?_
            refine ol_guard_undef rfl rfl rfl ?_
            refine ol_guard_undef rfl rfl rfl ?_
            refine ol_guard_undef rfl rfl rfl ?_
            refine ol_guard_undef rfl rfl rfl ?_
            refine ol_guard_undef rfl rfl rfl ?_
            refine ol_guard_undef rfl rfl rfl ?_
            refine ol_guard_undef rfl rfl rfl ?_
            refine ol_guard_undef rfl rfl rfl ?_
            refine ol_guard_no rfl rfl rfl rfl ?_
            -- r7.31 t62 := pick  t42 t61 Cfalse ?5=False
            refine ol_guard_pure rfl rfl rfl (op_pick_f rfl rfl) ?_
            -- r7.32 t63 := pick  t36 Ctrue t62
            refine ol_pure rfl (op_pick_f rfl rfl) ?_
            refine ol_nil ?_
            refine pq_then ?_
            refine cw_cond_f rfl ?_
            refine cw_skip ?_
            refine pq_then ?_
            refine cw_seq ?_
            refine cw_region ?_
            -- r9.0 t4 := assign  C1
            refine ol_pure rfl (op_assign rfl) ?_
            refine ol_nil ?_
            refine pq_then ?_
            refine cw_ret ?_
            refine pq_in_ret ?_
            refine pq_ret ?_
            refine pq_ret ?_
            refine pq_in_ret ?_
            refine pq_ret ?_
            refine ret1 rfl rfl ?_
            -- ret2 h12t h17t h30f h36f h42f
            exact hS.sc_i (by rw [hp, cmpT_at ha hb, if_neg hns, if_neg (by unfold ltC; simp_all)])
    · skip
      try simp only [decide_eq_true_eq, decide_eq_false_iff_not, Bool.not_eq_true', Bool.not_eq_false', Bool.not_eq_eq_eq_not, Bool.not_true, Bool.not_false] at h17
      refine cw_exit ?_
      refine pq_exit ?_
      refine pq_exit ?_
      refine pq_in_exit ?_
      refine pq_then ?_
      refine cw_seq ?_
      refine cw_region ?_
      -- r10.0 t4 := assign  C0
      refine ol_pure rfl (op_assign rfl) ?_
      refine ol_nil ?_
      refine pq_then ?_
      refine cw_ret ?_
      refine ret1 rfl rfl ?_
      -- ret3 h12t h17f
      exact hS.sc_i (by rw [hp, cmpT_end (by omega)])
  · skip
    try simp only [decide_eq_true_eq, decide_eq_false_iff_not, Bool.not_eq_true', Bool.not_eq_false', Bool.not_eq_eq_eq_not, Bool.not_true, Bool.not_false] at h12
    refine ol_guard_no rfl rfl rfl rfl ?_
    refine ol_guard_no rfl rfl rfl rfl ?_
    refine ol_guard_no rfl rfl rfl rfl ?_
    refine ol_guard_no rfl rfl rfl rfl ?_
    -- r2.9 t17 := pick  t12 t16 Cfalse
    refine ol_pure rfl (op_pick_f rfl rfl) ?_
    refine ol_nil ?_
    refine pq_then ?_
    refine cw_cond_f rfl ?_
    refine cw_exit ?_
    refine pq_exit ?_
    refine pq_exit ?_
    refine pq_in_exit ?_
    refine pq_then ?_
    refine cw_seq ?_
    refine cw_region ?_
    -- r10.0 t4 := assign  C0
    refine ol_pure rfl (op_assign rfl) ?_
    refine ol_nil ?_
    refine pq_then ?_
    refine cw_ret ?_
    refine ret1 rfl rfl ?_
    -- ret3 h12f
    exact hS.sc_i (by rw [hp, cmpT_end (by omega)])
end Go.Proofs.Ytbpmkidaoemebaa.K
