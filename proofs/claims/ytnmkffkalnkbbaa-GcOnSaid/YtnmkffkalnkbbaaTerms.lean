/-
  Terms as rows of cells.
  No condition but the premises that each theorem names.
-/
import Derived.Test.YtnmkffkalnkbbaaBase
import Derived.Test.YtnmkffkalnkbbaaPlt
namespace Go.Proofs.Ytnmkffkalnkbbaa.K
open Go Go.RowKit
set_option linter.unusedVariables false
set_option linter.unusedSimpArgs false

open Pl
def ECell : ER Cell := fun _ cs c => cs = [.int .i64 c.kind, .string c.name, .int .i64 c.n] ∧ (-9223372036854775808 ≤ c.kind ∧ c.kind ≤ 9223372036854775807) ∧ (-9223372036854775808 ≤ c.n ∧ c.n ≤ 9223372036854775807) ∧ c.name.size ≤ 9223372036854775807
theorem ECell.mono : EMono ECell := fun _ _ _ _ _ h => h
abbrev EAtom : ER (List Cell) := ESl 3 ECell
theorem EAtom.mono : EMono EAtom := ESl.mono ECell.mono
theorem RSl.cellAt {G : GH} {oa : Option Addr} {n c : Nat} {t : List Cell} (h : RSl 3 ECell G (.slice oa n c) t) {i : Nat} (hi : i < t.length) :
    oa.isSome = true ∧ ((-9223372036854775808 ≤ t[i].kind ∧ t[i].kind ≤ 9223372036854775807) ∧ (-9223372036854775808 ≤ t[i].n ∧ t[i].n ≤ 9223372036854775807) ∧ t[i].name.size ≤ 9223372036854775807) ∧ (∀ (k : Nat) (u : Value), [Value.int .i64 t[i].kind, .string t[i].name, .int .i64 t[i].n][k]? = some u → gcell G ((elA oa (i * 3)).add k) = some u) := by
  obtain ⟨h1, cs, _, ⟨rfl, h3, h4⟩, h5⟩ := h.el hi
  exact ⟨h1, ⟨h3, h4⟩, h5⟩
theorem RSl.slAt {α : Type} {sz : Nat} {E : ER α} {G : GH} {oa : Option Addr} {n c : Nat} {l : List (List α)} (h : RSl 1 (ESl sz E) G (.slice oa n c) l) {i : Nat} (hi : i < l.length) :
    oa.isSome = true ∧ ∃ ob d, gcell G (elA oa (i * 1)) = some (.slice ob l[i].length d) ∧ RSl sz E G (.slice ob l[i].length d) l[i] ∧ l[i].length ≤ d ∧ d ≤ maxLen := by
  obtain ⟨h1, cs, _, ⟨v, rfl, hv⟩, h5⟩ := h.el hi
  obtain ⟨ob, d, rfl, h6, h7⟩ := hv.elim
  have h8 := h5 0 _ rfl
  rw [add_zero''] at h8
  exact ⟨h1, ob, d, h8, hv, h6, h7⟩
theorem varsI_mem : ∀ (t : List Cell) (k : Nat) (x : Int), x ∈ varsI (t.take k) → ∃ c ∈ t, x = c.n
  | t, 0, x, h => by simp [varsI] at h
  | t, k + 1, x, h => by
    by_cases hk : k < t.length
    · rw [varsI_succ hk] at h
      split at h
      · rcases List.mem_append.1 h with h | h
        · exact varsI_mem t k x h
        · exact ⟨t[k], List.getElem_mem hk, by simpa using h⟩
      · exact varsI_mem t k x h
    · have h2 : t.take (k + 1) = t.take k := by rw [List.take_of_length_le (by omega), List.take_of_length_le (by omega)]
      rw [h2] at h
      exact varsI_mem t k x h
theorem RSl.nAll {G : GH} {v : Value} {t : List Cell} (h : RSl 3 ECell G v t) : ∀ (k : Nat) (x : Int), x ∈ varsI (t.take k) → -9223372036854775808 ≤ x ∧ x ≤ 9223372036854775807 := fun k x hx => by
  obtain ⟨c, hc, rfl⟩ := varsI_mem t k x hx
  obtain ⟨oa, cc, rfl, _, _⟩ := h.elim
  obtain ⟨i, hi, rfl⟩ := List.getElem_of_mem hc
  exact (h.cellAt hi).2.1.2.1
theorem bytesAt {s : ByteArray} {k : Nat} (h : k < s.size) (h' : k < s.data.toList.length) : s.data.toList[k] = s[k]'h := by
  simp
  rfl

set_option maxRecDepth 100000 in

theorem R01_name_c (G : GH) (w0 : World) (hG : Holds G w0) (s : ByteArray) (hs : s.size ≤ 9223372036854775807) :
   Calls Try.prog 68 #[.string s] w0 (Sc w0 (.bool (nameB s))) := by
 refine enter Try.func68 rfl (N := 34) rfl (Nat.le_of_ble_eq_true rfl) ?_
 have hS := SS.init hG
 refine cw_seq (cw_region (ol_pure rfl (op_assign rfl) (ol_nil (pq_then (cw_seq (cw_seq (cw_region ?_)))))))
 refine ol_pure rfl (op_assign rfl) (ol_nil (pq_then (cw_block ?_)))
 refine cw_loop (fun e w n => ∃ k : Nat, e = [(0, .string s), (3, .int .i64 (k : Nat))] ∧ k ≤ s.size ∧ n = s.size - k ∧ (s.data.toList.take k).any byteBad = false ∧ SS G w0 G [] w) _ _ (by exact ⟨0, rfl, Nat.zero_le _, rfl, rfl, hS⟩) ((Sub.cons rfl (Sub.cons rfl Sub.nil))) ?_
 clear hS
 rintro e w n ⟨k, rfl, hk, rfl, hp, hS⟩
 refine cw_seq (cw_seq (cw_region (ol_pure rfl (op_move rfl) (ol_pure rfl (op_move rfl) (ol_pure rfl (op_lenS Try.underlying9 rfl rfl) (ol_pure rfl (op_lss rfl rfl) (ol_nil ?_)))))))
 refine pq_then ?_
 refine cw_cond rfl (fun h7 => ?_) (fun h7 => ?_)
 ·
  try simp only [dqT, dqF, dq1, dq2, dq3, dq4, dq5] at h7
  have hlt : k < s.size := by omega
  have hlt' : k < s.data.toList.length := by simpa using hlt
  have hsk := bytesAt hlt hlt'
  refine cw_skip (pq_then (cw_seq (cw_block (cw_seq (cw_region (ol_pure rfl (op_move rfl) (ol_pure rfl (op_move rfl) ?_)))))))
  refine ol_pure rfl (op_indexS Try.underlying9 rfl rfl (by omega)) (ol_pure rfl (op_lss rfl rfl) (ol_pure rfl (op_move rfl) ?_))
  refine ol_split (fun h14 => ?_) (fun h14 => ?_)
  ·
   try simp only [dqT, dqF, dq1, dq2, dq3, dq4, dq5] at h14
   refine ol_guard_no rfl rfl rfl rfl (ol_guard_no rfl rfl rfl rfl (ol_guard_no rfl rfl rfl rfl (ol_guard_no rfl rfl rfl rfl (ol_pure rfl (op_pick_t rfl rfl) (ol_pure rfl (op_move rfl) (ol_guard_no rfl rfl rfl rfl (ol_guard_no rfl rfl rfl rfl ?_)))))))
   refine ol_guard_no rfl rfl rfl rfl (ol_guard_no rfl rfl rfl rfl (ol_pure rfl (op_pick_t rfl rfl) (ol_nil (pq_then (cw_cond_t rfl (cw_seq (cw_region ?_)))))))
   refine ol_pure rfl (op_assign rfl) (ol_nil (pq_then (cw_ret (pq_in_ret (pq_ret (pq_ret (pq_in_ret ?_)))))))
   refine pq_ret (ret1 rfl rfl ?_)
   have hbad : byteBad s.data.toList[k] = true := by
     rw [hsk, byteBad]
     simp
     omega
   exact hS.sc_b (by rw [nameB, Pl.any_true_at _ _ _ hlt' hbad]; rfl)
  ·
   try simp only [dqT, dqF, dq1, dq2, dq3, dq4, dq5] at h14
   refine ol_guard_pure rfl rfl rfl (op_move rfl) (ol_guard_pure rfl rfl rfl (op_move rfl) (ol_guard_pure rfl rfl rfl (op_indexS Try.underlying9 rfl rfl (by omega)) (ol_guard_pure rfl rfl rfl (op_gtr rfl rfl) (ol_pure rfl (op_pick_f rfl rfl) (ol_pure rfl (op_move rfl) ?_)))))
   refine ol_split (fun h20 => ?_) (fun h20 => ?_)
   ·
    try simp only [dqT, dqF, dq1, dq2, dq3, dq4, dq5] at h20
    refine ol_guard_no rfl rfl rfl rfl (ol_guard_no rfl rfl rfl rfl (ol_guard_no rfl rfl rfl rfl (ol_guard_no rfl rfl rfl rfl (ol_pure rfl (op_pick_t rfl rfl) (ol_nil (pq_then (cw_cond_t rfl ?_)))))))
    refine cw_seq (cw_region (ol_pure rfl (op_assign rfl) (ol_nil (pq_then (cw_ret (pq_in_ret (pq_ret ?_)))))))
    refine pq_ret (pq_in_ret (pq_ret (ret1 rfl rfl ?_)))
    have hbad : byteBad s.data.toList[k] = true := by
      rw [hsk, byteBad]
      simp
      omega
    exact hS.sc_b (by rw [nameB, Pl.any_true_at _ _ _ hlt' hbad]; rfl)
   ·
    try simp only [dqT, dqF, dq1, dq2, dq3, dq4, dq5] at h20
    refine ol_guard_pure rfl rfl rfl (op_move rfl) (ol_guard_pure rfl rfl rfl (op_move rfl) (ol_guard_pure rfl rfl rfl (op_indexS Try.underlying9 rfl rfl (by omega)) (ol_guard_pure rfl rfl rfl (op_eql rfl rfl) (ol_pure rfl (op_pick_f rfl rfl) (ol_nil (pq_then ?_))))))
    refine cw_cond rfl (fun h25 => ?_) (fun h25 => ?_)
    ·
     try simp only [dqT, dqF, dq1, dq2, dq3, dq4, dq5] at h25
     refine cw_seq (cw_region (ol_pure rfl (op_assign rfl) (ol_nil (pq_then (cw_ret (pq_in_ret (pq_ret ?_)))))))
     refine pq_ret (pq_in_ret (pq_ret (ret1 rfl rfl ?_)))
     have hbad : byteBad s.data.toList[k] = true := by
       rw [hsk, byteBad]
       simp
       omega
     exact hS.sc_b (by rw [nameB, Pl.any_true_at _ _ _ hlt' hbad]; rfl)
    ·
     try simp only [dqT, dqF, dq1, dq2, dq3, dq4, dq5] at h25
     have hbad : byteBad s.data.toList[k] = false := by
       rw [hsk, byteBad]
       simp
       omega
     refine cw_skip (pq_in_normal (pq_then (cw_region (ol_pure rfl (op_move rfl) (ol_pure rfl (op_add rfl rfl (by omega) (by omega)) (ol_pure rfl (op_assign rfl) (ol_nil ?_)))))))
     refine pq_loop _ _ (by exact ⟨k + 1, rfl, by omega, rfl, by rw [Pl.any_take_succ _ _ _ hlt', hp, hbad]; rfl, hS⟩) ((Sub.cons rfl (Sub.cons rfl Sub.nil))) (by omega)
 ·
  try simp only [dqT, dqF, dq1, dq2, dq3, dq4, dq5] at h7
  refine cw_exit (pq_exit (pq_exit (pq_in_exit (pq_then (cw_seq (cw_region (ol_pure rfl (op_move rfl) ?_)))))))
  refine ol_pure rfl (op_lenS Try.underlying9 rfl rfl) (ol_pure rfl (op_geq rfl rfl) (ol_pure rfl (op_move rfl) ?_))
  refine ol_split (fun h29 => ?_) (fun h29 => ?_)
  ·
   try simp only [dqT, dqF, dq1, dq2, dq3, dq4, dq5] at h29
   refine ol_guard_pure rfl rfl rfl (op_move rfl) (ol_guard_pure rfl rfl rfl (op_lenS Try.underlying9 rfl rfl) (ol_guard_pure rfl rfl rfl (op_leq rfl rfl) (ol_pure rfl (op_pick_t rfl rfl) (ol_pure rfl (op_assign rfl) (ol_nil (pq_then (cw_ret ?_)))))))
   refine ret1 rfl rfl ?_
   have e1 : 1 ≤ s.size := by omega
   have e2 : decide ((s.size : Int) ≤ 12) = decide (s.size ≤ 12) := decide_eq_decide.2 (by omega)
   exact hS.sc_b (by rw [nameB, Pl.any_of_take _ _ _ (by simpa using (by omega : s.size ≤ k)) hp, decide_eq_true e1, ← e2]; rfl)
  ·
   try simp only [dqT, dqF, dq1, dq2, dq3, dq4, dq5] at h29
   refine ol_guard_no rfl rfl rfl rfl (ol_guard_no rfl rfl rfl rfl (ol_guard_no rfl rfl rfl rfl (ol_pure rfl (op_pick_f rfl rfl) (ol_pure rfl (op_assign rfl) (ol_nil (pq_then (cw_ret ?_)))))))
   refine ret1 rfl rfl ?_
   exact hS.sc_b (by rw [nameB, Pl.any_of_take _ _ _ (by simpa using (by omega : s.size ≤ k)) hp]; simp; omega)
set_option maxRecDepth 100000 in

theorem R01_cell_c (G : GH) (w0 : World) (hG : Holds G w0) (c : Cell) (hb : (-9223372036854775808 ≤ c.kind ∧ c.kind ≤ 9223372036854775807) ∧ (-9223372036854775808 ≤ c.n ∧ c.n ≤ 9223372036854775807) ∧ c.name.size ≤ 9223372036854775807) :
   Calls Try.prog 67 #[.agg #[.int .i64 c.kind, .string c.name, .int .i64 c.n]] w0 (Sc w0 (.bool (cellB c))) := by
 refine enter Try.func67 rfl (N := 50) rfl (Nat.le_of_ble_eq_true rfl) ?_
 have hS := SS.init hG
 refine cw_seq (cw_region ?_)
 refine ol_step rfl (op_box hS rfl rfl) ?_
 clear hS
 rintro _ w ⟨b1, rfl, hS⟩
 refine ol_pure rfl (op_assign rfl) (ol_nil (pq_then (cw_seq (cw_seq (cw_region (ol_pure rfl (op_fieldAddr fld_58_0 rfl) (ol_load rfl (op_load1 one_3 rfl (fun w hw => (hw.bcell (i := 0) rfl).trans rfl)) hS ?_)))))))
 refine ol_nil (pq_then (cw_block (cw_seq (cw_region (ol_pure rfl (op_eql rfl rfl) (ol_pure rfl (op_assign rfl) (ol_nil ?_)))))))
 refine pq_then ?_
 refine cw_cond rfl (fun h5 => ?_) (fun h5 => ?_)
 ·
  try simp only [dqT, dqF, dq1, dq2, dq3, dq4, dq5] at h5
  refine cw_seq (cw_region (ol_pure rfl (op_fieldAddr fld_58_1 rfl) (ol_load rfl (op_load1 one_9 rfl (fun w hw => (hw.bcell (i := 0) rfl).trans rfl)) hS (ol_pure rfl (op_eqlS rfl rfl) (ol_pure rfl (op_move rfl) ?_)))))
  refine ol_split (fun h10 => ?_) (fun h10 => ?_)
  ·
   try simp only [dqT, dqF, dq1, dq2, dq3, dq4, dq5] at h10
   refine ol_guard_pure rfl rfl rfl (op_fieldAddr fld_58_2 rfl) (ol_guard_load rfl rfl rfl (op_load1 one_3 rfl (fun w hw => (hw.bcell (i := 0) rfl).trans rfl)) hS (ol_guard_pure rfl rfl rfl (op_geq rfl rfl) (ol_pure rfl (op_pick_t rfl rfl) (ol_pure rfl (op_move rfl) ?_))))
   refine ol_split (fun h15 => ?_) (fun h15 => ?_)
   ·
    try simp only [dqT, dqF, dq1, dq2, dq3, dq4, dq5] at h15
    refine ol_guard_pure rfl rfl rfl (op_fieldAddr fld_58_2 rfl) (ol_guard_load rfl rfl rfl (op_load1 one_3 rfl (fun w hw => (hw.bcell (i := 0) rfl).trans rfl)) hS (ol_guard_pure rfl rfl rfl (op_leq rfl rfl) (ol_pure rfl (op_pick_t rfl rfl) (ol_pure rfl (op_assign rfl) (ol_nil (pq_then (cw_ret ?_)))))))
    refine pq_in_ret (pq_ret (ret1 rfl rfl ?_))
    exact hS.sc_b (by unfold cellB; simp_all <;> omega)
   ·
    try simp only [dqT, dqF, dq1, dq2, dq3, dq4, dq5] at h15
    refine ol_guard_no rfl rfl rfl rfl (ol_guard_no rfl rfl rfl rfl (ol_guard_no rfl rfl rfl rfl (ol_pure rfl (op_pick_f rfl rfl) (ol_pure rfl (op_assign rfl) (ol_nil (pq_then (cw_ret ?_)))))))
    refine pq_in_ret (pq_ret (ret1 rfl rfl ?_))
    exact hS.sc_b (by unfold cellB; simp_all <;> omega)
  ·
   try simp only [dqT, dqF, dq1, dq2, dq3, dq4, dq5] at h10
   refine ol_guard_no rfl rfl rfl rfl (ol_guard_no rfl rfl rfl rfl (ol_guard_no rfl rfl rfl rfl (ol_pure rfl (op_pick_f rfl rfl) (ol_pure rfl (op_move rfl) (ol_guard_no rfl rfl rfl rfl (ol_guard_no rfl rfl rfl rfl (ol_guard_no rfl rfl rfl rfl ?_)))))))
   refine ol_pure rfl (op_pick_f rfl rfl) (ol_pure rfl (op_assign rfl) (ol_nil (pq_then (cw_ret (pq_in_ret (pq_ret (ret1 rfl rfl ?_)))))))
   exact hS.sc_b (by unfold cellB; simp_all <;> omega)
 ·
  try simp only [dqT, dqF, dq1, dq2, dq3, dq4, dq5] at h5
  refine cw_seq (cw_region (ol_pure rfl (op_eql rfl rfl) (ol_pure rfl (op_assign rfl) (ol_nil (pq_then ?_)))))
  refine cw_cond rfl (fun h20 => ?_) (fun h20 => ?_)
  ·
   try simp only [dqT, dqF, dq1, dq2, dq3, dq4, dq5] at h20
   refine cw_seq (cw_region (ol_pure rfl (op_fieldAddr fld_58_1 rfl) (ol_load rfl (op_load1 one_9 rfl (fun w hw => (hw.bcell (i := 0) rfl).trans rfl)) hS (ol_pure rfl (op_eqlS rfl rfl) (ol_pure rfl (op_move rfl) ?_)))))
   refine ol_split (fun h25 => ?_) (fun h25 => ?_)
   ·
    try simp only [dqT, dqF, dq1, dq2, dq3, dq4, dq5] at h25
    refine ol_guard_pure rfl rfl rfl (op_fieldAddr fld_58_2 rfl) (ol_guard_load rfl rfl rfl (op_load1 one_3 rfl (fun w hw => (hw.bcell (i := 0) rfl).trans rfl)) hS (ol_guard_pure rfl rfl rfl (op_geq rfl rfl) (ol_pure rfl (op_pick_t rfl rfl) (ol_pure rfl (op_move rfl) ?_))))
    refine ol_split (fun h30 => ?_) (fun h30 => ?_)
    ·
     try simp only [dqT, dqF, dq1, dq2, dq3, dq4, dq5] at h30
     refine ol_guard_pure rfl rfl rfl (op_fieldAddr fld_58_2 rfl) (ol_guard_load rfl rfl rfl (op_load1 one_3 rfl (fun w hw => (hw.bcell (i := 0) rfl).trans rfl)) hS (ol_guard_pure rfl rfl rfl (op_leq rfl rfl) (ol_pure rfl (op_pick_t rfl rfl) (ol_pure rfl (op_assign rfl) (ol_nil (pq_then (cw_ret ?_)))))))
     refine pq_in_ret (pq_ret (ret1 rfl rfl ?_))
     exact hS.sc_b (by unfold cellB; simp_all <;> omega)
    ·
     try simp only [dqT, dqF, dq1, dq2, dq3, dq4, dq5] at h30
     refine ol_guard_no rfl rfl rfl rfl (ol_guard_no rfl rfl rfl rfl (ol_guard_no rfl rfl rfl rfl (ol_pure rfl (op_pick_f rfl rfl) (ol_pure rfl (op_assign rfl) (ol_nil (pq_then (cw_ret ?_)))))))
     refine pq_in_ret (pq_ret (ret1 rfl rfl ?_))
     exact hS.sc_b (by unfold cellB; simp_all <;> omega)
   ·
    try simp only [dqT, dqF, dq1, dq2, dq3, dq4, dq5] at h25
    refine ol_guard_no rfl rfl rfl rfl (ol_guard_no rfl rfl rfl rfl (ol_guard_no rfl rfl rfl rfl (ol_pure rfl (op_pick_f rfl rfl) (ol_pure rfl (op_move rfl) (ol_guard_no rfl rfl rfl rfl (ol_guard_no rfl rfl rfl rfl (ol_guard_no rfl rfl rfl rfl ?_)))))))
    refine ol_pure rfl (op_pick_f rfl rfl) (ol_pure rfl (op_assign rfl) (ol_nil (pq_then (cw_ret (pq_in_ret (pq_ret (ret1 rfl rfl ?_)))))))
    exact hS.sc_b (by unfold cellB; simp_all <;> omega)
  ·
   try simp only [dqT, dqF, dq1, dq2, dq3, dq4, dq5] at h20
   refine cw_seq (cw_region (ol_pure rfl (op_eql rfl rfl) (ol_pure rfl (op_assign rfl) (ol_nil (pq_then ?_)))))
   refine cw_cond rfl (fun h35 => ?_) (fun h35 => ?_)
   ·
    try simp only [dqT, dqF, dq1, dq2, dq3, dq4, dq5] at h35
    refine cw_seq (cw_region (ol_pure rfl (op_fieldAddr fld_58_1 rfl) (ol_load rfl (op_load1 one_9 rfl (fun w hw => (hw.bcell (i := 0) rfl).trans rfl)) hS ?_)))
    refine ol_step rfl (op_call_sc hS cf_68 rfl (R01_name_c G _ hS.hold c.name hb.2.2)) ?_
    clear hS
    rintro _ w ⟨rfl, hS⟩
    refine ol_pure rfl (op_move rfl) ?_
    refine ol_split (fun h40 => ?_) (fun h40 => ?_)
    ·
     try simp only [dqT, dqF, dq1, dq2, dq3, dq4, dq5] at h40
     refine ol_guard_pure rfl rfl rfl (op_fieldAddr fld_58_2 rfl) (ol_guard_load rfl rfl rfl (op_load1 one_3 rfl (fun w hw => (hw.bcell (i := 0) rfl).trans rfl)) hS (ol_guard_pure rfl rfl rfl (op_geq rfl rfl) (ol_pure rfl (op_pick_t rfl rfl) (ol_pure rfl (op_move rfl) ?_))))
     refine ol_split (fun h45 => ?_) (fun h45 => ?_)
     ·
      try simp only [dqT, dqF, dq1, dq2, dq3, dq4, dq5] at h45
      refine ol_guard_pure rfl rfl rfl (op_fieldAddr fld_58_2 rfl) (ol_guard_load rfl rfl rfl (op_load1 one_3 rfl (fun w hw => (hw.bcell (i := 0) rfl).trans rfl)) hS (ol_guard_pure rfl rfl rfl (op_leq rfl rfl) (ol_pure rfl (op_pick_t rfl rfl) (ol_pure rfl (op_assign rfl) (ol_nil (pq_then (cw_ret ?_)))))))
      refine pq_in_ret (pq_ret (ret1 rfl rfl ?_))
      exact hS.sc_b (by unfold cellB; simp_all <;> omega)
     ·
      try simp only [dqT, dqF, dq1, dq2, dq3, dq4, dq5] at h45
      refine ol_guard_no rfl rfl rfl rfl (ol_guard_no rfl rfl rfl rfl (ol_guard_no rfl rfl rfl rfl (ol_pure rfl (op_pick_f rfl rfl) (ol_pure rfl (op_assign rfl) (ol_nil (pq_then (cw_ret ?_)))))))
      refine pq_in_ret (pq_ret (ret1 rfl rfl ?_))
      exact hS.sc_b (by unfold cellB; simp_all <;> omega)
    ·
     try simp only [dqT, dqF, dq1, dq2, dq3, dq4, dq5] at h40
     refine ol_guard_no rfl rfl rfl rfl (ol_guard_no rfl rfl rfl rfl (ol_guard_no rfl rfl rfl rfl (ol_pure rfl (op_pick_f rfl rfl) (ol_pure rfl (op_move rfl) (ol_guard_no rfl rfl rfl rfl (ol_guard_no rfl rfl rfl rfl (ol_guard_no rfl rfl rfl rfl ?_)))))))
     refine ol_pure rfl (op_pick_f rfl rfl) (ol_pure rfl (op_assign rfl) (ol_nil (pq_then (cw_ret (pq_in_ret (pq_ret (ret1 rfl rfl ?_)))))))
     exact hS.sc_b (by unfold cellB; simp_all <;> omega)
   ·
    try simp only [dqT, dqF, dq1, dq2, dq3, dq4, dq5] at h35
    refine cw_skip (pq_in_normal (pq_then (cw_seq (cw_region (ol_pure rfl (op_assign rfl) (ol_nil (pq_then ?_)))))))
    refine cw_ret (ret1 rfl rfl ?_)
    exact hS.sc_b (by unfold cellB; simp_all <;> omega)
set_option maxRecDepth 100000 in
set_option maxHeartbeats 400000 in

theorem R01_End_c (G : GH) (w0 : World) (hG : Holds G w0) (v : Value) (t : List Cell) (h1 : RSl 3 ECell G v t) (a : Nat) (ha : a ≤ t.length) (ht : t.length ≤ 1000000) :
   Calls Try.prog 66 #[v, .int .i64 (a : Nat)] w0 (Sc w0 (.int .i64 (endI (t.drop a) 1 a))) := by
 obtain ⟨oa, cc, rfl, hlc, hcm⟩ := h1.elim
 have hle := h1.le
 refine enter Try.func66 rfl (N := 39) rfl (Nat.le_of_ble_eq_true rfl) ?_
 have hS := SS.init hG
 refine cw_seq (cw_region (ol_pure rfl (op_assign rfl) (ol_nil (pq_then (cw_seq (cw_region (ol_pure rfl (op_assign rfl) ?_)))))))
 refine ol_nil (pq_then (cw_seq (cw_seq (cw_region (ol_pure rfl (op_move rfl) (ol_pure rfl (op_assign rfl) (ol_nil ?_)))))))
 refine pq_then (cw_block ?_)
 refine cw_loop (fun e w n => ∃ (o : Int) (k : Nat), e = [(0, .slice oa t.length cc), (5, .int .i64 o), (6, .int .i64 (k : Nat))] ∧ k ≤ t.length ∧ n = t.length - k ∧ endI (t.drop a) 1 a = endI (t.drop k) o k ∧ 1 - (k : Int) ≤ o ∧ o ≤ 1 + 5 * (k : Int) ∧ SS G w0 G [] w) _ _ (by exact ⟨1, a, rfl, ha, rfl, rfl, by omega, by omega, hS⟩) ((Sub.cons rfl (Sub.cons rfl (Sub.cons rfl Sub.nil)))) ?_
 clear hS
 rintro e w n ⟨o, k, rfl, hk, rfl, hp, ho1, ho2, hS⟩
 refine cw_seq (cw_seq (cw_region (ol_pure rfl (op_move rfl) (ol_pure rfl (op_move rfl) (ol_pure rfl (op_len sl_59 rfl rfl) (ol_pure rfl (op_lss rfl rfl) (ol_nil ?_)))))))
 refine pq_then ?_
 refine cw_cond rfl (fun h11 => ?_) (fun h11 => ?_)
 ·
  try simp only [dqT, dqF, dq1, dq2, dq3, dq4, dq5] at h11
  have hlt : k < t.length := by omega
  obtain ⟨hoa, hbd, hcells⟩ := h1.cellAt hlt
  refine cw_skip (pq_then (cw_seq (cw_block (cw_seq (cw_seq (cw_region (ol_pure rfl (op_move rfl) ?_)))))))
  refine ol_pure rfl (op_move rfl) (ol_pure rfl (op_indexN sl_59 rfl rfl (by omega) (by assumption)) (ol_load rfl (op_loadN agg_58 rfl (by rfl) (fun w hw k u hk => hw.gcell (hcells k u hk))) hS ?_))
  refine ol_step rfl (op_call_sc hS cf_67 rfl (R01_cell_c G _ hS.hold t[k] hbd)) ?_
  clear hS
  rintro _ w ⟨rfl, hS⟩
  refine ol_pure rfl (op_not rfl) (ol_nil (pq_then ?_))
  refine cw_cond rfl (fun h19 => ?_) (fun h19 => ?_)
  ·
   try simp only [dqT, dqF, dq1, dq2, dq3, dq4, dq5] at h19
   refine cw_seq (cw_region (ol_pure rfl (op_assign rfl) (ol_nil (pq_then (cw_ret (pq_ret (pq_in_ret ?_)))))))
   refine pq_ret (pq_ret (pq_in_ret (pq_ret (ret1 rfl rfl ?_))))
   exact hS.sc_i (by rw [hp, endI_at hlt, if_neg (by simp [h19])])
  ·
   try simp only [dqT, dqF, dq1, dq2, dq3, dq4, dq5] at h19
   have hcb : cellB t[k] = true := h19
   have hsb := stepE_bound (o := o) hcb
   refine cw_skip (pq_then (cw_seq (cw_region (ol_pure rfl (op_move rfl) (ol_pure rfl (op_sub rfl rfl (by omega) (by omega)) (ol_pure rfl (op_assign rfl) (ol_nil ?_)))))))
   refine pq_then (cw_seq (cw_seq (cw_region (ol_pure rfl (op_move rfl) (ol_pure rfl (op_move rfl) (ol_pure rfl (op_indexN sl_59 rfl rfl (by omega) (by assumption)) (ol_pure rfl (op_fieldAddr fld_58_0 rfl) ?_)))))))
   refine ol_load rfl (op_load1 one_3 rfl (fun w hw => hw.gcell (hcells 0 _ rfl))) hS (ol_pure rfl (op_eql rfl rfl) (ol_nil (pq_then ?_)))
   refine cw_cond rfl (fun h27 => ?_) (fun h27 => ?_)
   ·
    try simp only [dqT, dqF, dq1, dq2, dq3, dq4, dq5] at h27
    have hst : stepE t[k] o = o - 1 + t[k].n := by rw [stepE, if_pos h27]
    refine cw_region (ol_pure rfl (op_move rfl) (ol_pure rfl (op_move rfl) (ol_pure rfl (op_move rfl) (ol_pure rfl (op_indexN sl_59 rfl rfl (by omega) (by assumption)) (ol_pure rfl (op_fieldAddr fld_58_2 rfl) (ol_load rfl (op_load1 one_3 rfl (fun w hw => hw.gcell (hcells 2 _ rfl))) hS (ol_pure rfl (op_add rfl rfl (by omega) (by omega)) ?_)))))))
    refine ol_pure rfl (op_assign rfl) (ol_nil (pq_then (cw_seq (cw_region (ol_pure rfl (op_move rfl) (ol_pure rfl (op_eql rfl rfl) (ol_nil ?_)))))))
    refine pq_then ?_
    refine cw_cond rfl (fun h36 => ?_) (fun h36 => ?_)
    ·
     try simp only [dqT, dqF, dq1, dq2, dq3, dq4, dq5] at h36
     refine cw_seq (cw_region (ol_pure rfl (op_move rfl) (ol_pure rfl (op_add rfl rfl (by omega) (by omega)) (ol_pure rfl (op_assign rfl) (ol_nil (pq_then (cw_ret ?_)))))))
     refine pq_in_ret (pq_ret (pq_ret (pq_in_ret (pq_ret (ret1 rfl rfl ?_)))))
     exact hS.sc_i (by rw [hp, endI_at hlt, if_pos hcb, if_pos (by omega)])
    ·
     try simp only [dqT, dqF, dq1, dq2, dq3, dq4, dq5] at h36
     refine cw_skip (pq_in_normal (pq_then (cw_region (ol_pure rfl (op_move rfl) (ol_pure rfl (op_add rfl rfl (by omega) (by omega)) (ol_pure rfl (op_assign rfl) (ol_nil ?_)))))))
     refine pq_loop _ _ (by exact ⟨o - 1 + t[k].n, k + 1, rfl, by omega, rfl, by rw [hp, endI_at hlt, if_pos hcb, if_neg (by omega), hst]; rfl, by omega, by omega, hS⟩) ((Sub.cons rfl (Sub.cons rfl (Sub.cons rfl Sub.nil)))) (by omega)
   ·
    try simp only [dqT, dqF, dq1, dq2, dq3, dq4, dq5] at h27
    have hst : stepE t[k] o = o - 1 := by rw [stepE, if_neg h27]; omega
    refine cw_skip (pq_then (cw_seq (cw_region (ol_pure rfl (op_move rfl) (ol_pure rfl (op_eql rfl rfl) (ol_nil (pq_then ?_)))))))
    refine cw_cond rfl (fun h36 => ?_) (fun h36 => ?_)
    ·
     try simp only [dqT, dqF, dq1, dq2, dq3, dq4, dq5] at h36
     refine cw_seq (cw_region (ol_pure rfl (op_move rfl) (ol_pure rfl (op_add rfl rfl (by omega) (by omega)) (ol_pure rfl (op_assign rfl) (ol_nil (pq_then (cw_ret ?_)))))))
     refine pq_in_ret (pq_ret (pq_ret (pq_in_ret (pq_ret (ret1 rfl rfl ?_)))))
     exact hS.sc_i (by rw [hp, endI_at hlt, if_pos hcb, if_pos (by omega)])
    ·
     try simp only [dqT, dqF, dq1, dq2, dq3, dq4, dq5] at h36
     refine cw_skip (pq_in_normal (pq_then (cw_region (ol_pure rfl (op_move rfl) (ol_pure rfl (op_add rfl rfl (by omega) (by omega)) (ol_pure rfl (op_assign rfl) (ol_nil ?_)))))))
     refine pq_loop _ _ (by exact ⟨o - 1, k + 1, rfl, by omega, rfl, by rw [hp, endI_at hlt, if_pos hcb, if_neg (by omega), hst]; rfl, by omega, by omega, hS⟩) ((Sub.cons rfl (Sub.cons rfl (Sub.cons rfl Sub.nil)))) (by omega)
 ·
  try simp only [dqT, dqF, dq1, dq2, dq3, dq4, dq5] at h11
  refine cw_exit (pq_exit (pq_exit (pq_in_exit (pq_then (cw_seq (cw_region (ol_pure rfl (op_assign rfl) ?_)))))))
  refine ol_nil (pq_then (cw_ret (ret1 rfl rfl ?_)))
  exact hS.sc_i (by rw [hp, endI_end (by omega)])
set_option maxRecDepth 100000 in

theorem R01_Right_c (G : GH) (w0 : World) (hG : Holds G w0) (v : Value) (t : List Cell) (h1 : RSl 3 ECell G v t)  :
   Calls Try.prog 61 #[v] w0 (Sc w0 (.bool (rightT t))) := by
 obtain ⟨oa, cc, rfl, hlc, hcm⟩ := h1.elim
 have hle := h1.le
 refine enter Try.func61 rfl (N := 18) rfl (Nat.le_of_ble_eq_true rfl) ?_
 have hS := SS.init hG
 refine cw_seq (cw_region (ol_pure rfl (op_assign rfl) (ol_nil (pq_then (cw_seq (cw_region (ol_pure rfl (op_move rfl) ?_)))))))
 refine ol_pure rfl (op_len sl_59 rfl rfl) (ol_pure rfl (op_geq rfl rfl) (ol_pure rfl (op_move rfl) ?_))
 refine ol_split (fun h6 => ?_) (fun h6 => ?_)
 ·
  try simp only [dqT, dqF, dq1, dq2, dq3, dq4, dq5] at h6
  refine ol_guard_pure rfl rfl rfl (op_move rfl) (ol_guard_pure rfl rfl rfl (op_len sl_59 rfl rfl) (ol_guard_pure rfl rfl rfl (op_leq rfl rfl) (ol_pure rfl (op_pick_t rfl rfl) (ol_pure rfl (op_move rfl) ?_))))
  refine ol_split (fun h11 => ?_) (fun h11 => ?_)
  ·
   try simp only [dqT, dqF, dq1, dq2, dq3, dq4, dq5] at h11
   refine ol_guard_pure rfl rfl rfl (op_move rfl) ?_
   refine ol_guard_step rfl rfl rfl (op_call_sc hS cf_66 rfl (R01_End_c G _ hS.hold _ t h1 0 (Nat.zero_le _) (by omega))) ?_
   clear hS
   rintro _ w ⟨rfl, hS⟩
   refine ol_guard_pure rfl rfl rfl (op_move rfl) (ol_guard_pure rfl rfl rfl (op_len sl_59 rfl rfl) (ol_guard_pure rfl rfl rfl (op_eql rfl rfl) (ol_pure rfl (op_pick_t rfl rfl) (ol_pure rfl (op_assign rfl) (ol_nil (pq_then (cw_ret ?_)))))))
   refine ret1 rfl rfl ?_
   have e1 : (1 : Nat) ≤ t.length := by omega
   have e2 : t.length ≤ 200 := by omega
   exact hS.sc_b (by unfold rightT; simp [e1, e2])
  ·
   try simp only [dqT, dqF, dq1, dq2, dq3, dq4, dq5] at h11
   refine ol_guard_no rfl rfl rfl rfl (ol_guard_no rfl rfl rfl rfl (ol_guard_no rfl rfl rfl rfl (ol_guard_no rfl rfl rfl rfl (ol_guard_no rfl rfl rfl rfl (ol_pure rfl (op_pick_f rfl rfl) (ol_pure rfl (op_assign rfl) (ol_nil ?_)))))))
   refine pq_then (cw_ret (ret1 rfl rfl ?_))
   exact hS.sc_b (by unfold rightT; simp; omega)
 ·
  try simp only [dqT, dqF, dq1, dq2, dq3, dq4, dq5] at h6
  refine ol_guard_no rfl rfl rfl rfl (ol_guard_no rfl rfl rfl rfl (ol_guard_no rfl rfl rfl rfl (ol_pure rfl (op_pick_f rfl rfl) (ol_pure rfl (op_move rfl) (ol_guard_no rfl rfl rfl rfl (ol_guard_no rfl rfl rfl rfl (ol_guard_no rfl rfl rfl rfl ?_)))))))
  refine ol_guard_no rfl rfl rfl rfl (ol_guard_no rfl rfl rfl rfl (ol_pure rfl (op_pick_f rfl rfl) (ol_pure rfl (op_assign rfl) (ol_nil (pq_then (cw_ret (ret1 rfl rfl ?_)))))))
  exact hS.sc_b (by unfold rightT; simp; omega)
set_option maxRecDepth 100000 in
set_option maxHeartbeats 400000 in

theorem R01_Same_c (G : GH) (w0 : World) (hG : Holds G w0) (v u : Value) (a b : List Cell) (h1 : RSl 3 ECell G v a) (h2 : RSl 3 ECell G u b)  :
   Calls Try.prog 51 #[v, u] w0 (Sc w0 (.bool (sameT a b))) := by
 obtain ⟨oa, ca, rfl, hla, hma⟩ := h1.elim
 obtain ⟨ob, cb, rfl, hlb, hmb⟩ := h2.elim
 have hle1 := h1.le
 have hle2 := h2.le
 refine enter Try.func51 rfl (N := 26) rfl (Nat.le_of_ble_eq_true rfl) ?_
 have hS := SS.init hG
 refine cw_seq (cw_region (ol_pure rfl (op_assign rfl) (ol_nil (pq_then (cw_seq (cw_seq (cw_region ?_)))))))
 refine ol_pure rfl (op_move rfl) (ol_pure rfl (op_len sl_59 rfl rfl) (ol_pure rfl (op_move rfl) (ol_pure rfl (op_len sl_59 rfl rfl) (ol_pure rfl (op_neq rfl rfl) (ol_nil (pq_then ?_))))))
 refine cw_cond rfl (fun h10 => ?_) (fun h10 => ?_)
 ·
  try simp only [dqT, dqF, dq1, dq2, dq3, dq4, dq5] at h10
  refine cw_seq (cw_region (ol_pure rfl (op_assign rfl) (ol_nil (pq_then (cw_ret (pq_ret (ret1 rfl rfl ?_)))))))
  exact hS.sc_b (by
    symm
    rw [Bool.eq_false_iff]
    exact fun hh => by have := sameT_len hh; omega)
 ·
  try simp only [dqT, dqF, dq1, dq2, dq3, dq4, dq5] at h10
  have hll : a.length = b.length := by omega
  refine cw_skip (pq_then (cw_seq (cw_seq (cw_region (ol_pure rfl (op_assign rfl) (ol_nil (pq_then ?_)))))))
  refine cw_block ?_
  refine cw_loop (fun e w n => ∃ k : Nat, e = [(0, .slice oa a.length ca), (1, .slice ob b.length cb), (5, .int .i64 (k : Nat))] ∧ k ≤ a.length ∧ n = a.length - k ∧ sameT a b = sameT (a.drop k) (b.drop k) ∧ SS G w0 G [] w) _ _ (by exact ⟨0, rfl, Nat.zero_le _, rfl, rfl, hS⟩) ((Sub.cons rfl (Sub.cons rfl (Sub.cons rfl Sub.nil)))) ?_
  clear hS
  rintro e w n ⟨k, rfl, hk, rfl, hp, hS⟩
  refine cw_seq (cw_seq (cw_region (ol_pure rfl (op_move rfl) (ol_pure rfl (op_move rfl) (ol_pure rfl (op_len sl_59 rfl rfl) (ol_pure rfl (op_lss rfl rfl) (ol_nil ?_)))))))
  refine pq_then ?_
  refine cw_cond rfl (fun h14 => ?_) (fun h14 => ?_)
  ·
   try simp only [dqT, dqF, dq1, dq2, dq3, dq4, dq5] at h14
   have ha : k < a.length := by omega
   have hb : k < b.length := by omega
   obtain ⟨hoa, hbd1, hc1⟩ := h1.cellAt ha
   obtain ⟨hob, hbd2, hc2⟩ := h2.cellAt hb
   refine cw_skip (pq_then (cw_seq (cw_block (cw_seq ?_))))
   refine al_start' hS (hS.take 0) (by kernel_rfl) rfl (fun w hS hT => ?_)
   refine al_take (i := 0) rfl (by kernel_rfl) (by kernel_rfl) (by kernel_rfl) rfl (fun _ _ _ h => h) (op_move rfl) rfl (al_take (i := 1) rfl (by kernel_rfl) (by kernel_rfl) (by kernel_rfl) rfl (fun _ _ _ h => h) (op_move rfl) rfl (al_take (i := 2) rfl (by kernel_rfl) (by kernel_rfl) (by kernel_rfl) rfl (fun _ _ _ h => h) (op_indexN sl_59 rfl rfl (by omega) (by assumption)) rfl (al_load (i := 3) rfl (by kernel_rfl) (by kernel_rfl) (by kernel_rfl) rfl (fun _ _ _ h => h) (by exact op_loadN agg_58 rfl (by rfl) (fun w hw k u hk => hw.gcell (hc1 k u hk))) rfl hT (al_take (i := 4) rfl (by kernel_rfl) (by kernel_rfl) (by kernel_rfl) rfl (fun _ _ _ h => h) (op_move rfl) rfl (al_take (i := 5) rfl (by kernel_rfl) (by kernel_rfl) (by kernel_rfl) rfl (fun _ _ _ h => h) (op_move rfl) rfl (al_take (i := 6) rfl (by kernel_rfl) (by kernel_rfl) (by kernel_rfl) rfl (fun _ _ _ h => h) (op_indexN sl_59 rfl rfl (by omega) (by assumption)) rfl (al_load (i := 7) rfl (by kernel_rfl) (by kernel_rfl) (by kernel_rfl) rfl (fun _ _ _ h => h) (by exact op_loadN agg_58 rfl (by rfl) (fun w hw k u hk => hw.gcell (hc2 k u hk))) rfl hT ?_)))))))
   refine al_take (i := 8) rfl (by kernel_rfl) (by kernel_rfl) (by kernel_rfl) rfl (fun _ _ _ h => h) (op_neqC cell_58 rfl rfl) rfl (al_done (by kernel_rfl) (pq_then ?_))
   refine cw_cond rfl (fun h25 => ?_) (fun h25 => ?_)
   ·
    try simp only [dqT, dqF, dq1, dq2, dq3, dq4, dq5] at h25
    have hns : sameC a[k] b[k] = false := by simpa [sameC] using h25
    refine cw_seq (cw_region (ol_pure rfl (op_assign rfl) (ol_nil (pq_then (cw_ret (pq_in_ret (pq_ret ?_)))))))
    refine pq_ret (pq_in_ret (pq_ret (ret1 rfl rfl ?_)))
    exact hS.sc_b (by rw [hp, sameT_at ha hb, hns, Bool.false_and])
   ·
    try simp only [dqT, dqF, dq1, dq2, dq3, dq4, dq5] at h25
    have hsame : sameC a[k] b[k] = true := by simpa [sameC] using h25
    refine cw_skip (pq_in_normal (pq_then (cw_region (ol_pure rfl (op_move rfl) (ol_pure rfl (op_add rfl rfl (by omega) (by omega)) (ol_pure rfl (op_assign rfl) (ol_nil ?_)))))))
    refine pq_loop _ _ (by exact ⟨k + 1, rfl, by omega, rfl, by rw [hp, sameT_at ha hb, hsame, Bool.true_and], hS⟩) ((Sub.cons rfl (Sub.cons rfl (Sub.cons rfl Sub.nil)))) (by omega)
  ·
   try simp only [dqT, dqF, dq1, dq2, dq3, dq4, dq5] at h14
   refine cw_exit (pq_exit (pq_exit (pq_in_exit (pq_then (cw_seq (cw_region (ol_pure rfl (op_assign rfl) ?_)))))))
   refine ol_nil (pq_then (cw_ret (ret1 rfl rfl ?_)))
   exact hS.sc_b (by rw [hp, List.drop_eq_nil_of_le (by omega : a.length ≤ k), List.drop_eq_nil_of_le (by omega : b.length ≤ k)]; rfl)
end Go.Proofs.Ytnmkffkalnkbbaa.K
