/-
  Terms that are made of any cells.
  No condition but the premises that each theorem names.
-/
import Derived.Test.YtnmkffkalnkbbaaHp9
namespace Go.Proofs.Ytnmkffkalnkbbaa.K
open Go Go.RowKit
set_option linter.unusedVariables false
set_option linter.unusedSimpArgs false

open Pl
theorem andM (x : Int) {m : Nat} (M : Nat) (hm : M = 2 ^ m) (h1 : M ≤ 65536) (h0 : 0 < M) (he : (BitVec.ofInt 64 ((M : Int) - 1)).toNat = M - 1) : bits .and .i64 x ((M : Int) - 1) = x % M := by
  show IntKind.i64.wrap ((BitVec.ofInt 64 x &&& BitVec.ofInt 64 ((M : Int) - 1)).toNat : Int) = _
  have h3 : (BitVec.ofInt 64 x).toNat &&& (M - 1) = (BitVec.ofInt 64 x).toNat % M := by rw [hm]; exact Nat.and_two_pow_sub_one_eq_mod _ m
  have h4 : (BitVec.ofInt 64 x).toNat % M < M := Nat.mod_lt _ h0
  rw [BitVec.toNat_and, he, h3, IntWalk.i64_in _ ⟨by omega, by omega⟩, BitVec.toNat_ofInt, Int.natCast_emod, Int.toNat_of_nonneg (Int.emod_nonneg _ (by decide))]
  rw [Int.emod_emod_of_dvd]
  rw [hm]
  have h5 : m ≤ 64 := by
    rcases Nat.lt_or_ge 64 m with hh | hh
    · exfalso
      have : 2 ^ 64 ≤ 2 ^ m := Nat.pow_le_pow_right (by decide) (by omega)
      have h6 : (2 : Nat) ^ 64 = 18446744073709551616 := by decide
      omega
    · exact hh
  exact Int.natCast_dvd_natCast.2 (Nat.pow_dvd_pow 2 h5)
theorem and1 (x : Int) : bits .and .i64 x 1 = x % 2 := andM x (m := 1) 2 rfl (by decide) (by decide) (by decide)
theorem and3 (x : Int) : bits .and .i64 x 3 = x % 4 := andM x (m := 2) 4 rfl (by decide) (by decide) (by decide)
theorem and7 (x : Int) : bits .and .i64 x 7 = x % 8 := andM x (m := 3) 8 rfl (by decide) (by decide) (by decide)
def OpenT (out : List Cell) (need : Int) : Prop := (need = 0 → isT out) ∧ (need ≠ 0 → ∀ rest, endI (out ++ rest) 1 0 = endI rest need out.length)
theorem OpenT.step {out : List Cell} {need : Int} (h : OpenT out need) (h0 : 0 < need) {x : Cell} (hx : cellB x = true) : OpenT (out ++ [x]) (need - 1 + nfC x) := by
  have h1 := h.2 (by omega)
  constructor
  · intro hz
    have h2 := h1 [x]
    rw [endI, if_pos hx, stepE_nf, if_pos hz] at h2
    unfold isT
    rw [h2]
    simp
  · intro hz rest
    rw [List.append_assoc, h1, List.cons_append, List.nil_append, endI, if_pos hx, stepE_nf, if_neg hz]
    simp
theorem rightT_isT {t : List Cell} (h : rightT t = true) : isT t := by
  simp only [rightT, Bool.and_eq_true, decide_eq_true_eq] at h
  exact h.2
theorem cellB_bd {c : Cell} (h : cellB c = true) : CellBd c := by
  unfold cellB at h
  unfold CellBd
  split at h
  · simp only [Bool.and_eq_true, decide_eq_true_eq, beq_iff_eq] at h
    have := nil_size h.1.1
    omega
  · split at h
    · simp only [Bool.and_eq_true, decide_eq_true_eq, beq_iff_eq] at h
      have := nil_size h.1.1
      omega
    · split at h
      · simp only [Bool.and_eq_true, decide_eq_true_eq, nameB] at h
        omega
      · cases h
theorem name_a : nameB ⟨#[97]⟩ = true := by decide +kernel
theorem name_f : nameB ⟨#[102]⟩ = true := by decide +kernel
theorem name_g : nameB ⟨#[103]⟩ = true := by decide +kernel

set_option maxRecDepth 100000 in

theorem R03_name_c {G0 G : GH} {w0 w : World} {M : List Ent} (hS : SS G0 w0 G M w) (s : ByteArray) (hs : s.size ≤ 9223372036854775807) :
   Calls Try.prog 62 #[.string s] w (fun en w' => ∃ v, en = .returned v ∧ ∃ n, v = .string n ∧ nameB n = true ∧ SS G0 w0 G M w') := by
 refine enter Try.func62 rfl (N := 11) rfl (Nat.le_of_ble_eq_true rfl) ?_
 refine cw_seq (cw_region (ol_pure rfl (op_assign rfl) (ol_nil (pq_then (cw_seq (cw_seq (cw_region ?_)))))))
 refine ol_pure rfl (op_move rfl) (ol_pure rfl (op_lenS Try.underlying9 rfl rfl) (ol_pure rfl (op_and rfl rfl) (ol_pure rfl (op_eql rfl rfl) (ol_nil (pq_then ?_)))))
 refine cw_cond rfl (fun h6 => ?_) (fun h6 => ?_)
 ·
  try simp only [dqT, dqF, dq1, dq2, dq3, dq4, dq5] at h6
  refine cw_seq (cw_region (ol_pure rfl (op_assign rfl) (ol_nil (pq_then (cw_ret (pq_ret (ret1 rfl rfl ?_)))))))
  exact ⟨_, rfl, _, rfl, name_f, hS⟩
 ·
  try simp only [dqT, dqF, dq1, dq2, dq3, dq4, dq5] at h6
  refine cw_skip (pq_then (cw_seq (cw_seq (cw_region (ol_pure rfl (op_move rfl) (ol_pure rfl (op_lenS Try.underlying9 rfl rfl) (ol_pure rfl (op_and rfl rfl) ?_)))))))
  refine ol_pure rfl (op_eql rfl rfl) (ol_nil (pq_then ?_))
  refine cw_cond rfl (fun h10 => ?_) (fun h10 => ?_)
  ·
   try simp only [dqT, dqF, dq1, dq2, dq3, dq4, dq5] at h10
   refine cw_seq (cw_region (ol_pure rfl (op_assign rfl) (ol_nil (pq_then (cw_ret (pq_ret (ret1 rfl rfl ?_)))))))
   exact ⟨_, rfl, _, rfl, name_g, hS⟩
  ·
   try simp only [dqT, dqF, dq1, dq2, dq3, dq4, dq5] at h10
   refine cw_skip (pq_then (cw_seq (cw_region (ol_pure rfl (op_assign rfl) (ol_nil (pq_then (cw_ret ?_)))))))
   refine ret1 rfl rfl ?_
   exact ⟨_, rfl, _, rfl, name_a, hS⟩
set_option maxRecDepth 100000 in
set_option maxHeartbeats 2000000 in

theorem R03_Made_c (G : GH) (w0 : World) (hG : Holds G w0) (v : Value) (l : List Cell) (h1 : RSl 3 ECell G v l) :
   Calls Try.prog 32 #[v, .int .i64 10] w0 (Rt G w0 (fun G v => ∃ t, RSl 3 ECell G v t ∧ isT t ∧ t.length ≤ 10)) := by
 obtain ⟨oa, ca, rfl, _, _⟩ := h1.elim
 have hle := h1.le
 refine enter Try.func32 rfl (N := 110) rfl (Nat.le_of_ble_eq_true rfl) ?_
 have hS := SS.init hG
 refine cw_seq (cw_region (ol_pure rfl (op_assign rfl) (ol_nil (pq_then (cw_seq (cw_seq (cw_region ?_)))))))
 refine ol_pure rfl (op_move rfl) ?_
 refine ol_step rfl (op_call_sc hS cf_61 rfl (R01_Right_c _ _ hS.hold _ l h1)) ?_
 clear hS
 rintro _ w ⟨rfl, hS⟩
 refine ol_pure rfl (op_move rfl) ?_
 refine ol_split (fun h11 => ?_) (fun h11 => ?_)
 ·
  try simp only [dqT, dqF, dq1, dq2, dq3, dq4, dq5] at h11
  refine ol_guard_pure rfl rfl rfl (op_move rfl) (ol_guard_pure rfl rfl rfl (op_len sl_59 rfl rfl) (ol_guard_pure rfl rfl rfl (op_move rfl) (ol_guard_pure rfl rfl rfl (op_leq rfl rfl) (ol_pure rfl (op_pick_t rfl rfl) (ol_nil (pq_then ?_))))))
  refine cw_cond rfl (fun h16 => ?_) (fun h16 => ?_)
  ·
   try simp only [dqT, dqF, dq1, dq2, dq3, dq4, dq5] at h16
   refine cw_seq (cw_region (ol_pure rfl (op_move rfl) (ol_pure rfl (op_assign rfl) (ol_nil (pq_then (cw_ret (pq_ret ?_)))))))
   refine ret1 rfl rfl ?_
   exact hS.rt _ ⟨l, h1, rightT_isT h11, by omega⟩
  ·
   try simp only [dqT, dqF, dq1, dq2, dq3, dq4, dq5] at h16
   refine cw_skip (pq_then (cw_seq (cw_region ?_)))
   refine ol_step rfl (op_buildSlice (el := 58) (is := []) (xs := []) (sz := 3) (cs := []) hS rfl rfl (fun w => by kernel_rfl) rfl (by decide)) ?_
   clear hS
   rintro _ w ⟨o5, rfl, hS⟩
   refine ol_pure rfl (op_assign rfl) (ol_pure rfl (op_assign rfl) (ol_nil (pq_then (cw_seq (cw_seq (cw_region (ol_pure rfl (op_assign rfl) ?_)))))))
   refine ol_nil (pq_then (cw_block ?_))
   refine cw_loop (fun e w n => ∃ (out : List Cell) (need : Int) (i : Nat) (o5 : Option Addr) (c5 : Nat), e = [(0, .slice oa l.length ca), (1, .int .i64 10), (5, .slice o5 out.length c5), (6, .int .i64 need), (7, .int .i64 (i : Nat))] ∧ 0 ≤ need ∧ (out.length : Int) + need ≤ 10 ∧ i = out.length ∧ OpenT out need ∧ (∀ c ∈ out, CellBd c) ∧ n = 10 - out.length ∧ SS G w0 G [.row o5 out.length c5 58 3 (cellsV out)] w) _ _ (by exact ⟨[], 1, 0, o5, _, rfl, by omega, by simp, rfl, ⟨by omega, fun _ _ => rfl⟩, by simp, rfl, hS⟩) ((Sub.cons rfl (Sub.cons rfl (Sub.cons rfl (Sub.cons rfl (Sub.cons rfl Sub.nil)))))) ?_
   clear hS
   rintro e w n ⟨out, need, i, o5, c5, rfl, hn0, hn1, hil, hO, hob, rfl, hS⟩
   refine cw_seq (cw_seq (cw_region (ol_pure rfl (op_move rfl) (ol_pure rfl (op_gtr rfl rfl) (ol_nil (pq_then ?_))))))
   refine cw_cond rfl (fun h20 => ?_) (fun h20 => ?_)
   ·
    try simp only [dqT, dqF, dq1, dq2, dq3, dq4, dq5] at h20
    refine cw_skip (pq_then (cw_seq (cw_block (cw_seq (cw_region (ol_pure rfl (op_build (is := [0, 1]) (xs := [.const (.int .i64 (3)), .const (_)]) (v := .agg #[.int .i64 3, .string ⟨#[97]⟩, .int .i64 0]) rfl rfl (fun w => by kernel_rfl)) ?_))))))
    refine ol_step rfl (op_alloc hS el_58 rfl) ?_
    clear hS
    rintro _ w ⟨b8, rfl, hS⟩
    refine ol_step0  (op_storeN (j := 0) hS sz_58 rfl rfl rfl rfl rfl (by simp [Value.oneCell'])) ?_
    clear hS
    rintro _ w hS; (try simp only [List.nil_append, List.cons_append, List.set] at hS)
    refine ol_nil (pq_then ?_)
    refine cw_cut (fun e w => ∃ (x : Cell), e = [(0, .slice oa l.length ca), (1, .int .i64 10), (5, .slice o5 out.length c5), (6, .int .i64 need), (7, .int .i64 (i : Nat)), (8, .pointer (some ⟨b8, 0, none⟩))] ∧ cellB x = true ∧ (out.length : Int) + need - 1 + nfC x < 10 ∧ SS G w0 G [.blk b8 58 (cellV x), .row o5 out.length c5 58 3 (cellsV out)] w) ?_ ?_
    ·
     refine cw_seq (cw_region (ol_pure rfl (op_move rfl) (ol_pure rfl (op_move rfl) (ol_pure rfl (op_len sl_59 rfl rfl) (ol_pure rfl (op_lss rfl rfl) (ol_pure rfl (op_move rfl) ?_))))))
     refine ol_split (fun h28 => ?_) (fun h28 => ?_)
     ·
      try simp only [dqT, dqF, dq1, dq2, dq3, dq4, dq5] at h28
      have hlt : i < l.length := by omega
      obtain ⟨hoa, hbd, hcells⟩ := h1.cellAt hlt
      refine ol_guard_pure rfl rfl rfl (op_move rfl) (ol_guard_pure rfl rfl rfl (op_move rfl) (ol_guard_pure rfl rfl rfl (op_indexN sl_59 rfl rfl (by omega) hoa) (ol_guard_pure rfl rfl rfl (op_fieldAddr fld_58_0 rfl) (ol_guard_load rfl rfl rfl (op_load1 one_3 rfl (fun w hw => hw.gcell (hcells 0 _ rfl))) hS (ol_guard_pure rfl rfl rfl (op_and rfl rfl) (ol_guard_pure rfl rfl rfl (op_eql rfl rfl) (ol_pure rfl (op_pick_t rfl rfl) ?_)))))))
      refine ol_nil (pq_then ?_)
      refine cw_cond rfl (fun h36 => ?_) (fun h36 => ?_)
      ·
       try simp only [dqT, dqF, dq1, dq2, dq3, dq4, dq5] at h36
       refine cw_region (ol_pure rfl (op_move rfl) (ol_pure rfl (op_move rfl) (ol_pure rfl (op_indexN sl_59 rfl rfl (by omega) hoa) (ol_pure rfl (op_fieldAddr fld_58_2 rfl) (ol_load rfl (op_load1 one_3 rfl (fun w hw => hw.gcell (hcells 2 _ rfl))) hS (ol_pure rfl (op_val (v' := .int .i64 (l[i].n % 8)) (op_and rfl rfl) (congrArg (Value.int .i64) (and7 _))) (ol_pure rfl (op_build (is := [0, 2]) (xs := [.const (.int .i64 (1)), .tmp 42]) (v := .agg #[.int .i64 1, .string ByteArray.empty, .int .i64 (l[i].n % 8)]) rfl rfl (fun w => by kernel_rfl)) ?_)))))))
       refine ol_step0  (op_storeN (j := 0) hS sz_58 rfl rfl rfl rfl rfl (by simp [Value.oneCell'])) ?_
       clear hS
       rintro _ w hS; (try simp only [List.nil_append, List.cons_append, List.set] at hS)
       refine ol_nil ?_
       refine pq_cut _ (by exact ⟨⟨1, ByteArray.empty, l[i].n % 8⟩, rfl, by simp only [cellB, empty_toList]; simp; omega, by simp only [nfC]; simp; omega, hS⟩) ((Sub.cons rfl (Sub.cons rfl (Sub.cons rfl (Sub.cons rfl (Sub.cons rfl (Sub.cons rfl Sub.nil)))))))
      ·
       try simp only [dqT, dqF, dq1, dq2, dq3, dq4, dq5] at h36
       refine cw_seq (cw_region (ol_pure rfl (op_move rfl) (ol_pure rfl (op_move rfl) (ol_pure rfl (op_len sl_59 rfl rfl) (ol_pure rfl (op_lss rfl rfl) (ol_pure rfl (op_move rfl) ?_))))))
       refine ol_split (fun h48 => ?_) (fun h48 => ?_)
       ·
        try simp only [dqT, dqF, dq1, dq2, dq3, dq4, dq5] at h48
        have hlt : i < l.length := by omega
        obtain ⟨hoa, hbd, hcells⟩ := h1.cellAt hlt
        refine ol_guard_pure rfl rfl rfl (op_move rfl) (ol_guard_pure rfl rfl rfl (op_move rfl) (ol_guard_pure rfl rfl rfl (op_indexN sl_59 rfl rfl (by omega) hoa) (ol_guard_pure rfl rfl rfl (op_fieldAddr fld_58_0 rfl) (ol_guard_load rfl rfl rfl (op_load1 one_3 rfl (fun w hw => hw.gcell (hcells 0 _ rfl))) hS (ol_guard_pure rfl rfl rfl (op_and rfl rfl) (ol_guard_pure rfl rfl rfl (op_eql rfl rfl) (ol_pure rfl (op_pick_t rfl rfl) ?_)))))))
        refine ol_nil (pq_then ?_)
        refine cw_cond rfl (fun h56 => ?_) (fun h56 => ?_)
        ·
         try simp only [dqT, dqF, dq1, dq2, dq3, dq4, dq5] at h56
         refine cw_region (ol_pure rfl (op_move rfl) (ol_pure rfl (op_move rfl) (ol_pure rfl (op_indexN sl_59 rfl rfl (by omega) hoa) (ol_pure rfl (op_fieldAddr fld_58_2 rfl) (ol_load rfl (op_load1 one_3 rfl (fun w hw => hw.gcell (hcells 2 _ rfl))) hS (ol_pure rfl (op_val (v' := .int .i64 (l[i].n % 4)) (op_and rfl rfl) (congrArg (Value.int .i64) (and3 _))) (ol_pure rfl (op_build (is := [0, 2]) (xs := [.const (.int .i64 (2)), .tmp 62]) (v := .agg #[.int .i64 2, .string ByteArray.empty, .int .i64 (l[i].n % 4)]) rfl rfl (fun w => by kernel_rfl)) ?_)))))))
         refine ol_step0  (op_storeN (j := 0) hS sz_58 rfl rfl rfl rfl rfl (by simp [Value.oneCell'])) ?_
         clear hS
         rintro _ w hS; (try simp only [List.nil_append, List.cons_append, List.set] at hS)
         refine ol_nil ?_
         refine pq_cut _ (by exact ⟨⟨2, ByteArray.empty, l[i].n % 4⟩, rfl, by simp only [cellB, empty_toList]; simp; omega, by simp only [nfC]; simp; omega, hS⟩) ((Sub.cons rfl (Sub.cons rfl (Sub.cons rfl (Sub.cons rfl (Sub.cons rfl (Sub.cons rfl Sub.nil)))))))
        ·
         try simp only [dqT, dqF, dq1, dq2, dq3, dq4, dq5] at h56
         refine cw_seq (cw_region (ol_pure rfl (op_move rfl) (ol_pure rfl (op_move rfl) (ol_pure rfl (op_len sl_59 rfl rfl) (ol_pure rfl (op_lss rfl rfl) (ol_pure rfl (op_move rfl) ?_))))))
         refine ol_split (fun h68 => ?_) (fun h68 => ?_)
         ·
          try simp only [dqT, dqF, dq1, dq2, dq3, dq4, dq5] at h68
          have hlt : i < l.length := by omega
          obtain ⟨hoa, hbd, hcells⟩ := h1.cellAt hlt
          refine ol_guard_pure rfl rfl rfl (op_move rfl) (ol_guard_pure rfl rfl rfl (op_len sl_59 rfl rfl) (ol_guard_pure rfl rfl rfl (op_move rfl) (ol_guard_pure rfl rfl rfl (op_add rfl rfl (by omega) (by omega)) (ol_guard_pure rfl rfl rfl (op_move rfl) (ol_guard_pure rfl rfl rfl (op_move rfl) (ol_guard_pure rfl rfl rfl (op_indexN sl_59 rfl rfl (by omega) hoa) (ol_guard_pure rfl rfl rfl (op_fieldAddr fld_58_2 rfl) ?_)))))))
          refine ol_guard_load rfl rfl rfl (op_load1 one_3 rfl (fun w hw => hw.gcell (hcells 2 _ rfl))) hS (ol_guard_pure rfl rfl rfl (op_val (v' := .int .i64 (l[i].n % 4)) (op_and rfl rfl) (congrArg (Value.int .i64) (and3 _))) (ol_guard_pure rfl rfl rfl (op_add rfl rfl (by omega) (by omega)) (ol_guard_pure rfl rfl rfl (op_move rfl) (ol_guard_pure rfl rfl rfl (op_leq rfl rfl) (ol_pure rfl (op_pick_t rfl rfl) (ol_nil (pq_then ?_)))))))
          refine cw_cond rfl (fun h82 => ?_) (fun h82 => ?_)
          ·
           try simp only [dqT, dqF, dq1, dq2, dq3, dq4, dq5] at h82
           refine al_start' hS (hS.take 0) (by kernel_rfl) rfl (fun w hS hT => ?_)
           refine al_take (i := 0) rfl (by kernel_rfl) (by kernel_rfl) (by kernel_rfl) rfl (fun _ _ _ h => h) (op_move rfl) rfl (al_take (i := 1) rfl (by kernel_rfl) (by kernel_rfl) (by kernel_rfl) rfl (fun _ _ _ h => h) (op_move rfl) rfl (al_take (i := 2) rfl (by kernel_rfl) (by kernel_rfl) (by kernel_rfl) rfl (fun _ _ _ h => h) (op_indexN sl_59 rfl rfl (by omega) hoa) rfl (al_take (i := 3) rfl (by kernel_rfl) (by kernel_rfl) (by kernel_rfl) rfl (fun _ _ _ h => h) (op_fieldAddr fld_58_1 rfl) rfl (al_load (i := 4) rfl (by kernel_rfl) (by kernel_rfl) (by kernel_rfl) rfl (fun _ _ _ h => h) (by exact op_load1 one_9 rfl (fun w hw => hw.gcell (hcells 1 _ rfl))) rfl hT (al_take (i := 6) rfl (by kernel_rfl) (by kernel_rfl) (by kernel_rfl) rfl (fun _ _ _ h => h) (op_move rfl) rfl (al_take (i := 7) rfl (by kernel_rfl) (by kernel_rfl) (by kernel_rfl) rfl (fun _ _ _ h => h) (op_move rfl) rfl (al_take (i := 8) rfl (by kernel_rfl) (by kernel_rfl) (by kernel_rfl) rfl (fun _ _ _ h => h) (op_indexN sl_59 rfl rfl (by omega) hoa) rfl ?_)))))))
           refine al_take (i := 9) rfl (by kernel_rfl) (by kernel_rfl) (by kernel_rfl) rfl (fun _ _ _ h => h) (op_fieldAddr fld_58_2 rfl) rfl (al_load (i := 10) rfl (by kernel_rfl) (by kernel_rfl) (by kernel_rfl) rfl (fun _ _ _ h => h) (by exact op_load1 one_3 rfl (fun w hw => hw.gcell (hcells 2 _ rfl))) rfl hT (al_take (i := 11) rfl (by kernel_rfl) (by kernel_rfl) (by kernel_rfl) rfl (fun _ _ _ h => h) (op_val (v' := .int .i64 (l[i].n % 4)) (op_and rfl rfl) (congrArg (Value.int .i64) (and3 _))) rfl ?_))
           refine al_step (i := 5) rfl (by kernel_rfl) rfl (op_call cf_62 rfl (R03_name_c hS l[i].name hbd.2.2)) ?_
           clear hS
           rintro _ w ⟨nm, rfl, hnm, hS⟩
           have hT := hT.back hS (by first | exact Le.refl _ | assumption) (fun x hx => by simp at hx)
           refine ⟨fun _ _ => hT, ?_⟩
           refine al_take (i := 12) rfl (by kernel_rfl) (by kernel_rfl) (by kernel_rfl) rfl (fun _ _ _ h => h) (op_build (is := [0, 1, 2]) (xs := [.const (.int .i64 (3)), .tmp 88, .tmp 94]) (v := .agg #[.int .i64 3, .string nm, .int .i64 (l[i].n % 4)]) rfl rfl (fun w => by kernel_rfl)) rfl ?_
           refine al_step0 (i := 13) rfl (by kernel_rfl) (op_storeN (j := 0) hS sz_58 rfl rfl rfl rfl rfl (by simp [Value.oneCell'])) ?_
           clear hS
           rintro _ w hS; (try simp only [List.nil_append, List.cons_append, List.set] at hS)
           refine ⟨no_need (by kernel_rfl), ?_⟩
           refine al_done (by kernel_rfl) ?_
           refine pq_cut _ (by exact ⟨⟨3, nm, l[i].n % 4⟩, rfl, by simp only [cellB, hnm]; simp; omega, by simp only [nfC]; simp; omega, hS⟩) ((Sub.cons rfl (Sub.cons rfl (Sub.cons rfl (Sub.cons rfl (Sub.cons rfl (Sub.cons rfl Sub.nil)))))))
          ·
           try simp only [dqT, dqF, dq1, dq2, dq3, dq4, dq5] at h82
           refine cw_skip ?_
           refine pq_cut _ (by exact ⟨⟨3, ⟨#[97]⟩, 0⟩, rfl, by simp only [cellB, name_a]; simp, by simp only [nfC]; simp; omega, hS⟩) ((Sub.cons rfl (Sub.cons rfl (Sub.cons rfl (Sub.cons rfl (Sub.cons rfl (Sub.cons rfl Sub.nil)))))))
         ·
          try simp only [dqT, dqF, dq1, dq2, dq3, dq4, dq5] at h68
          refine ol_guard_no rfl rfl rfl rfl (ol_guard_no rfl rfl rfl rfl (ol_guard_no rfl rfl rfl rfl (ol_guard_no rfl rfl rfl rfl (ol_guard_no rfl rfl rfl rfl (ol_guard_no rfl rfl rfl rfl (ol_guard_no rfl rfl rfl rfl (ol_guard_no rfl rfl rfl rfl ?_)))))))
          refine ol_guard_no rfl rfl rfl rfl (ol_guard_no rfl rfl rfl rfl (ol_guard_no rfl rfl rfl rfl (ol_guard_no rfl rfl rfl rfl (ol_guard_no rfl rfl rfl rfl (ol_pure rfl (op_pick_f rfl rfl) (ol_nil (pq_then ?_)))))))
          refine cw_cond_f rfl (cw_skip ?_)
          refine pq_cut _ (by exact ⟨⟨3, ⟨#[97]⟩, 0⟩, rfl, by simp only [cellB, name_a]; simp, by simp only [nfC]; simp; omega, hS⟩) ((Sub.cons rfl (Sub.cons rfl (Sub.cons rfl (Sub.cons rfl (Sub.cons rfl (Sub.cons rfl Sub.nil)))))))
       ·
        try simp only [dqT, dqF, dq1, dq2, dq3, dq4, dq5] at h48
        refine ol_guard_no rfl rfl rfl rfl (ol_guard_no rfl rfl rfl rfl (ol_guard_no rfl rfl rfl rfl (ol_guard_no rfl rfl rfl rfl (ol_guard_no rfl rfl rfl rfl (ol_guard_no rfl rfl rfl rfl (ol_guard_no rfl rfl rfl rfl (ol_pure rfl (op_pick_f rfl rfl) ?_)))))))
        refine ol_nil (pq_then (cw_cond_f rfl (cw_seq (cw_region (ol_pure rfl (op_move rfl) (ol_pure rfl (op_move rfl) (ol_pure rfl (op_len sl_59 rfl rfl) ?_)))))))
        refine ol_pure rfl (op_lss rfl rfl) (ol_pure rfl (op_move rfl) ?_)
        refine ol_split (fun h68 => ?_) (fun h68 => ?_)
        ·
         try simp only [dqT, dqF, dq1, dq2, dq3, dq4, dq5] at h68
         have hlt : i < l.length := by omega
         obtain ⟨hoa, hbd, hcells⟩ := h1.cellAt hlt
         refine ol_guard_pure rfl rfl rfl (op_move rfl) (ol_guard_pure rfl rfl rfl (op_len sl_59 rfl rfl) (ol_guard_pure rfl rfl rfl (op_move rfl) (ol_guard_pure rfl rfl rfl (op_add rfl rfl (by omega) (by omega)) (ol_guard_pure rfl rfl rfl (op_move rfl) (ol_guard_pure rfl rfl rfl (op_move rfl) (ol_guard_pure rfl rfl rfl (op_indexN sl_59 rfl rfl (by omega) hoa) (ol_guard_pure rfl rfl rfl (op_fieldAddr fld_58_2 rfl) ?_)))))))
         refine ol_guard_load rfl rfl rfl (op_load1 one_3 rfl (fun w hw => hw.gcell (hcells 2 _ rfl))) hS (ol_guard_pure rfl rfl rfl (op_val (v' := .int .i64 (l[i].n % 4)) (op_and rfl rfl) (congrArg (Value.int .i64) (and3 _))) (ol_guard_pure rfl rfl rfl (op_add rfl rfl (by omega) (by omega)) (ol_guard_pure rfl rfl rfl (op_move rfl) (ol_guard_pure rfl rfl rfl (op_leq rfl rfl) (ol_pure rfl (op_pick_t rfl rfl) (ol_nil (pq_then ?_)))))))
         refine cw_cond rfl (fun h82 => ?_) (fun h82 => ?_)
         ·
          try simp only [dqT, dqF, dq1, dq2, dq3, dq4, dq5] at h82
          refine al_start' hS (hS.take 0) (by kernel_rfl) rfl (fun w hS hT => ?_)
          refine al_take (i := 0) rfl (by kernel_rfl) (by kernel_rfl) (by kernel_rfl) rfl (fun _ _ _ h => h) (op_move rfl) rfl (al_take (i := 1) rfl (by kernel_rfl) (by kernel_rfl) (by kernel_rfl) rfl (fun _ _ _ h => h) (op_move rfl) rfl (al_take (i := 2) rfl (by kernel_rfl) (by kernel_rfl) (by kernel_rfl) rfl (fun _ _ _ h => h) (op_indexN sl_59 rfl rfl (by omega) hoa) rfl (al_take (i := 3) rfl (by kernel_rfl) (by kernel_rfl) (by kernel_rfl) rfl (fun _ _ _ h => h) (op_fieldAddr fld_58_1 rfl) rfl (al_load (i := 4) rfl (by kernel_rfl) (by kernel_rfl) (by kernel_rfl) rfl (fun _ _ _ h => h) (by exact op_load1 one_9 rfl (fun w hw => hw.gcell (hcells 1 _ rfl))) rfl hT (al_take (i := 6) rfl (by kernel_rfl) (by kernel_rfl) (by kernel_rfl) rfl (fun _ _ _ h => h) (op_move rfl) rfl (al_take (i := 7) rfl (by kernel_rfl) (by kernel_rfl) (by kernel_rfl) rfl (fun _ _ _ h => h) (op_move rfl) rfl (al_take (i := 8) rfl (by kernel_rfl) (by kernel_rfl) (by kernel_rfl) rfl (fun _ _ _ h => h) (op_indexN sl_59 rfl rfl (by omega) hoa) rfl ?_)))))))
          refine al_take (i := 9) rfl (by kernel_rfl) (by kernel_rfl) (by kernel_rfl) rfl (fun _ _ _ h => h) (op_fieldAddr fld_58_2 rfl) rfl (al_load (i := 10) rfl (by kernel_rfl) (by kernel_rfl) (by kernel_rfl) rfl (fun _ _ _ h => h) (by exact op_load1 one_3 rfl (fun w hw => hw.gcell (hcells 2 _ rfl))) rfl hT (al_take (i := 11) rfl (by kernel_rfl) (by kernel_rfl) (by kernel_rfl) rfl (fun _ _ _ h => h) (op_val (v' := .int .i64 (l[i].n % 4)) (op_and rfl rfl) (congrArg (Value.int .i64) (and3 _))) rfl ?_))
          refine al_step (i := 5) rfl (by kernel_rfl) rfl (op_call cf_62 rfl (R03_name_c hS l[i].name hbd.2.2)) ?_
          clear hS
          rintro _ w ⟨nm, rfl, hnm, hS⟩
          have hT := hT.back hS (by first | exact Le.refl _ | assumption) (fun x hx => by simp at hx)
          refine ⟨fun _ _ => hT, ?_⟩
          refine al_take (i := 12) rfl (by kernel_rfl) (by kernel_rfl) (by kernel_rfl) rfl (fun _ _ _ h => h) (op_build (is := [0, 1, 2]) (xs := [.const (.int .i64 (3)), .tmp 88, .tmp 94]) (v := .agg #[.int .i64 3, .string nm, .int .i64 (l[i].n % 4)]) rfl rfl (fun w => by kernel_rfl)) rfl ?_
          refine al_step0 (i := 13) rfl (by kernel_rfl) (op_storeN (j := 0) hS sz_58 rfl rfl rfl rfl rfl (by simp [Value.oneCell'])) ?_
          clear hS
          rintro _ w hS; (try simp only [List.nil_append, List.cons_append, List.set] at hS)
          refine ⟨no_need (by kernel_rfl), ?_⟩
          refine al_done (by kernel_rfl) ?_
          refine pq_cut _ (by exact ⟨⟨3, nm, l[i].n % 4⟩, rfl, by simp only [cellB, hnm]; simp; omega, by simp only [nfC]; simp; omega, hS⟩) ((Sub.cons rfl (Sub.cons rfl (Sub.cons rfl (Sub.cons rfl (Sub.cons rfl (Sub.cons rfl Sub.nil)))))))
         ·
          try simp only [dqT, dqF, dq1, dq2, dq3, dq4, dq5] at h82
          refine cw_skip ?_
          refine pq_cut _ (by exact ⟨⟨3, ⟨#[97]⟩, 0⟩, rfl, by simp only [cellB, name_a]; simp, by simp only [nfC]; simp; omega, hS⟩) ((Sub.cons rfl (Sub.cons rfl (Sub.cons rfl (Sub.cons rfl (Sub.cons rfl (Sub.cons rfl Sub.nil)))))))
        ·
         try simp only [dqT, dqF, dq1, dq2, dq3, dq4, dq5] at h68
         refine ol_guard_no rfl rfl rfl rfl (ol_guard_no rfl rfl rfl rfl (ol_guard_no rfl rfl rfl rfl (ol_guard_no rfl rfl rfl rfl (ol_guard_no rfl rfl rfl rfl (ol_guard_no rfl rfl rfl rfl (ol_guard_no rfl rfl rfl rfl (ol_guard_no rfl rfl rfl rfl ?_)))))))
         refine ol_guard_no rfl rfl rfl rfl (ol_guard_no rfl rfl rfl rfl (ol_guard_no rfl rfl rfl rfl (ol_guard_no rfl rfl rfl rfl (ol_guard_no rfl rfl rfl rfl (ol_pure rfl (op_pick_f rfl rfl) (ol_nil (pq_then ?_)))))))
         refine cw_cond_f rfl (cw_skip ?_)
         refine pq_cut _ (by exact ⟨⟨3, ⟨#[97]⟩, 0⟩, rfl, by simp only [cellB, name_a]; simp, by simp only [nfC]; simp; omega, hS⟩) ((Sub.cons rfl (Sub.cons rfl (Sub.cons rfl (Sub.cons rfl (Sub.cons rfl (Sub.cons rfl Sub.nil)))))))
     ·
      try simp only [dqT, dqF, dq1, dq2, dq3, dq4, dq5] at h28
      refine ol_guard_no rfl rfl rfl rfl (ol_guard_no rfl rfl rfl rfl (ol_guard_no rfl rfl rfl rfl (ol_guard_no rfl rfl rfl rfl (ol_guard_no rfl rfl rfl rfl (ol_guard_no rfl rfl rfl rfl (ol_guard_no rfl rfl rfl rfl (ol_pure rfl (op_pick_f rfl rfl) ?_)))))))
      refine ol_nil (pq_then (cw_cond_f rfl (cw_seq (cw_region (ol_pure rfl (op_move rfl) (ol_pure rfl (op_move rfl) (ol_pure rfl (op_len sl_59 rfl rfl) ?_)))))))
      refine ol_pure rfl (op_lss rfl rfl) (ol_pure rfl (op_move rfl) ?_)
      refine ol_split (fun h48 => ?_) (fun h48 => ?_)
      ·
       try simp only [dqT, dqF, dq1, dq2, dq3, dq4, dq5] at h48
       have hlt : i < l.length := by omega
       obtain ⟨hoa, hbd, hcells⟩ := h1.cellAt hlt
       refine ol_guard_pure rfl rfl rfl (op_move rfl) (ol_guard_pure rfl rfl rfl (op_move rfl) (ol_guard_pure rfl rfl rfl (op_indexN sl_59 rfl rfl (by omega) hoa) (ol_guard_pure rfl rfl rfl (op_fieldAddr fld_58_0 rfl) (ol_guard_load rfl rfl rfl (op_load1 one_3 rfl (fun w hw => hw.gcell (hcells 0 _ rfl))) hS (ol_guard_pure rfl rfl rfl (op_and rfl rfl) (ol_guard_pure rfl rfl rfl (op_eql rfl rfl) (ol_pure rfl (op_pick_t rfl rfl) ?_)))))))
       refine ol_nil (pq_then ?_)
       refine cw_cond rfl (fun h56 => ?_) (fun h56 => ?_)
       ·
        try simp only [dqT, dqF, dq1, dq2, dq3, dq4, dq5] at h56
        refine cw_region (ol_pure rfl (op_move rfl) (ol_pure rfl (op_move rfl) (ol_pure rfl (op_indexN sl_59 rfl rfl (by omega) hoa) (ol_pure rfl (op_fieldAddr fld_58_2 rfl) (ol_load rfl (op_load1 one_3 rfl (fun w hw => hw.gcell (hcells 2 _ rfl))) hS (ol_pure rfl (op_val (v' := .int .i64 (l[i].n % 4)) (op_and rfl rfl) (congrArg (Value.int .i64) (and3 _))) (ol_pure rfl (op_build (is := [0, 2]) (xs := [.const (.int .i64 (2)), .tmp 62]) (v := .agg #[.int .i64 2, .string ByteArray.empty, .int .i64 (l[i].n % 4)]) rfl rfl (fun w => by kernel_rfl)) ?_)))))))
        refine ol_step0  (op_storeN (j := 0) hS sz_58 rfl rfl rfl rfl rfl (by simp [Value.oneCell'])) ?_
        clear hS
        rintro _ w hS; (try simp only [List.nil_append, List.cons_append, List.set] at hS)
        refine ol_nil ?_
        refine pq_cut _ (by exact ⟨⟨2, ByteArray.empty, l[i].n % 4⟩, rfl, by simp only [cellB, empty_toList]; simp; omega, by simp only [nfC]; simp; omega, hS⟩) ((Sub.cons rfl (Sub.cons rfl (Sub.cons rfl (Sub.cons rfl (Sub.cons rfl (Sub.cons rfl Sub.nil)))))))
       ·
        try simp only [dqT, dqF, dq1, dq2, dq3, dq4, dq5] at h56
        refine cw_seq (cw_region (ol_pure rfl (op_move rfl) (ol_pure rfl (op_move rfl) (ol_pure rfl (op_len sl_59 rfl rfl) (ol_pure rfl (op_lss rfl rfl) (ol_pure rfl (op_move rfl) ?_))))))
        refine ol_split (fun h68 => ?_) (fun h68 => ?_)
        ·
         try simp only [dqT, dqF, dq1, dq2, dq3, dq4, dq5] at h68
         have hlt : i < l.length := by omega
         obtain ⟨hoa, hbd, hcells⟩ := h1.cellAt hlt
         refine ol_guard_pure rfl rfl rfl (op_move rfl) (ol_guard_pure rfl rfl rfl (op_len sl_59 rfl rfl) (ol_guard_pure rfl rfl rfl (op_move rfl) (ol_guard_pure rfl rfl rfl (op_add rfl rfl (by omega) (by omega)) (ol_guard_pure rfl rfl rfl (op_move rfl) (ol_guard_pure rfl rfl rfl (op_move rfl) (ol_guard_pure rfl rfl rfl (op_indexN sl_59 rfl rfl (by omega) hoa) (ol_guard_pure rfl rfl rfl (op_fieldAddr fld_58_2 rfl) ?_)))))))
         refine ol_guard_load rfl rfl rfl (op_load1 one_3 rfl (fun w hw => hw.gcell (hcells 2 _ rfl))) hS (ol_guard_pure rfl rfl rfl (op_val (v' := .int .i64 (l[i].n % 4)) (op_and rfl rfl) (congrArg (Value.int .i64) (and3 _))) (ol_guard_pure rfl rfl rfl (op_add rfl rfl (by omega) (by omega)) (ol_guard_pure rfl rfl rfl (op_move rfl) (ol_guard_pure rfl rfl rfl (op_leq rfl rfl) (ol_pure rfl (op_pick_t rfl rfl) (ol_nil (pq_then ?_)))))))
         refine cw_cond rfl (fun h82 => ?_) (fun h82 => ?_)
         ·
          try simp only [dqT, dqF, dq1, dq2, dq3, dq4, dq5] at h82
          refine al_start' hS (hS.take 0) (by kernel_rfl) rfl (fun w hS hT => ?_)
          refine al_take (i := 0) rfl (by kernel_rfl) (by kernel_rfl) (by kernel_rfl) rfl (fun _ _ _ h => h) (op_move rfl) rfl (al_take (i := 1) rfl (by kernel_rfl) (by kernel_rfl) (by kernel_rfl) rfl (fun _ _ _ h => h) (op_move rfl) rfl (al_take (i := 2) rfl (by kernel_rfl) (by kernel_rfl) (by kernel_rfl) rfl (fun _ _ _ h => h) (op_indexN sl_59 rfl rfl (by omega) hoa) rfl (al_take (i := 3) rfl (by kernel_rfl) (by kernel_rfl) (by kernel_rfl) rfl (fun _ _ _ h => h) (op_fieldAddr fld_58_1 rfl) rfl (al_load (i := 4) rfl (by kernel_rfl) (by kernel_rfl) (by kernel_rfl) rfl (fun _ _ _ h => h) (by exact op_load1 one_9 rfl (fun w hw => hw.gcell (hcells 1 _ rfl))) rfl hT (al_take (i := 6) rfl (by kernel_rfl) (by kernel_rfl) (by kernel_rfl) rfl (fun _ _ _ h => h) (op_move rfl) rfl (al_take (i := 7) rfl (by kernel_rfl) (by kernel_rfl) (by kernel_rfl) rfl (fun _ _ _ h => h) (op_move rfl) rfl (al_take (i := 8) rfl (by kernel_rfl) (by kernel_rfl) (by kernel_rfl) rfl (fun _ _ _ h => h) (op_indexN sl_59 rfl rfl (by omega) hoa) rfl ?_)))))))
          refine al_take (i := 9) rfl (by kernel_rfl) (by kernel_rfl) (by kernel_rfl) rfl (fun _ _ _ h => h) (op_fieldAddr fld_58_2 rfl) rfl (al_load (i := 10) rfl (by kernel_rfl) (by kernel_rfl) (by kernel_rfl) rfl (fun _ _ _ h => h) (by exact op_load1 one_3 rfl (fun w hw => hw.gcell (hcells 2 _ rfl))) rfl hT (al_take (i := 11) rfl (by kernel_rfl) (by kernel_rfl) (by kernel_rfl) rfl (fun _ _ _ h => h) (op_val (v' := .int .i64 (l[i].n % 4)) (op_and rfl rfl) (congrArg (Value.int .i64) (and3 _))) rfl ?_))
          refine al_step (i := 5) rfl (by kernel_rfl) rfl (op_call cf_62 rfl (R03_name_c hS l[i].name hbd.2.2)) ?_
          clear hS
          rintro _ w ⟨nm, rfl, hnm, hS⟩
          have hT := hT.back hS (by first | exact Le.refl _ | assumption) (fun x hx => by simp at hx)
          refine ⟨fun _ _ => hT, ?_⟩
          refine al_take (i := 12) rfl (by kernel_rfl) (by kernel_rfl) (by kernel_rfl) rfl (fun _ _ _ h => h) (op_build (is := [0, 1, 2]) (xs := [.const (.int .i64 (3)), .tmp 88, .tmp 94]) (v := .agg #[.int .i64 3, .string nm, .int .i64 (l[i].n % 4)]) rfl rfl (fun w => by kernel_rfl)) rfl ?_
          refine al_step0 (i := 13) rfl (by kernel_rfl) (op_storeN (j := 0) hS sz_58 rfl rfl rfl rfl rfl (by simp [Value.oneCell'])) ?_
          clear hS
          rintro _ w hS; (try simp only [List.nil_append, List.cons_append, List.set] at hS)
          refine ⟨no_need (by kernel_rfl), ?_⟩
          refine al_done (by kernel_rfl) ?_
          refine pq_cut _ (by exact ⟨⟨3, nm, l[i].n % 4⟩, rfl, by simp only [cellB, hnm]; simp; omega, by simp only [nfC]; simp; omega, hS⟩) ((Sub.cons rfl (Sub.cons rfl (Sub.cons rfl (Sub.cons rfl (Sub.cons rfl (Sub.cons rfl Sub.nil)))))))
         ·
          try simp only [dqT, dqF, dq1, dq2, dq3, dq4, dq5] at h82
          refine cw_skip ?_
          refine pq_cut _ (by exact ⟨⟨3, ⟨#[97]⟩, 0⟩, rfl, by simp only [cellB, name_a]; simp, by simp only [nfC]; simp; omega, hS⟩) ((Sub.cons rfl (Sub.cons rfl (Sub.cons rfl (Sub.cons rfl (Sub.cons rfl (Sub.cons rfl Sub.nil)))))))
        ·
         try simp only [dqT, dqF, dq1, dq2, dq3, dq4, dq5] at h68
         refine ol_guard_no rfl rfl rfl rfl (ol_guard_no rfl rfl rfl rfl (ol_guard_no rfl rfl rfl rfl (ol_guard_no rfl rfl rfl rfl (ol_guard_no rfl rfl rfl rfl (ol_guard_no rfl rfl rfl rfl (ol_guard_no rfl rfl rfl rfl (ol_guard_no rfl rfl rfl rfl ?_)))))))
         refine ol_guard_no rfl rfl rfl rfl (ol_guard_no rfl rfl rfl rfl (ol_guard_no rfl rfl rfl rfl (ol_guard_no rfl rfl rfl rfl (ol_guard_no rfl rfl rfl rfl (ol_pure rfl (op_pick_f rfl rfl) (ol_nil (pq_then ?_)))))))
         refine cw_cond_f rfl (cw_skip ?_)
         refine pq_cut _ (by exact ⟨⟨3, ⟨#[97]⟩, 0⟩, rfl, by simp only [cellB, name_a]; simp, by simp only [nfC]; simp; omega, hS⟩) ((Sub.cons rfl (Sub.cons rfl (Sub.cons rfl (Sub.cons rfl (Sub.cons rfl (Sub.cons rfl Sub.nil)))))))
      ·
       try simp only [dqT, dqF, dq1, dq2, dq3, dq4, dq5] at h48
       refine ol_guard_no rfl rfl rfl rfl (ol_guard_no rfl rfl rfl rfl (ol_guard_no rfl rfl rfl rfl (ol_guard_no rfl rfl rfl rfl (ol_guard_no rfl rfl rfl rfl (ol_guard_no rfl rfl rfl rfl (ol_guard_no rfl rfl rfl rfl (ol_pure rfl (op_pick_f rfl rfl) ?_)))))))
       refine ol_nil (pq_then (cw_cond_f rfl (cw_seq (cw_region (ol_pure rfl (op_move rfl) (ol_pure rfl (op_move rfl) (ol_pure rfl (op_len sl_59 rfl rfl) ?_)))))))
       refine ol_pure rfl (op_lss rfl rfl) (ol_pure rfl (op_move rfl) ?_)
       refine ol_split (fun h68 => ?_) (fun h68 => ?_)
       ·
        try simp only [dqT, dqF, dq1, dq2, dq3, dq4, dq5] at h68
        have hlt : i < l.length := by omega
        obtain ⟨hoa, hbd, hcells⟩ := h1.cellAt hlt
        refine ol_guard_pure rfl rfl rfl (op_move rfl) (ol_guard_pure rfl rfl rfl (op_len sl_59 rfl rfl) (ol_guard_pure rfl rfl rfl (op_move rfl) (ol_guard_pure rfl rfl rfl (op_add rfl rfl (by omega) (by omega)) (ol_guard_pure rfl rfl rfl (op_move rfl) (ol_guard_pure rfl rfl rfl (op_move rfl) (ol_guard_pure rfl rfl rfl (op_indexN sl_59 rfl rfl (by omega) hoa) (ol_guard_pure rfl rfl rfl (op_fieldAddr fld_58_2 rfl) ?_)))))))
        refine ol_guard_load rfl rfl rfl (op_load1 one_3 rfl (fun w hw => hw.gcell (hcells 2 _ rfl))) hS (ol_guard_pure rfl rfl rfl (op_val (v' := .int .i64 (l[i].n % 4)) (op_and rfl rfl) (congrArg (Value.int .i64) (and3 _))) (ol_guard_pure rfl rfl rfl (op_add rfl rfl (by omega) (by omega)) (ol_guard_pure rfl rfl rfl (op_move rfl) (ol_guard_pure rfl rfl rfl (op_leq rfl rfl) (ol_pure rfl (op_pick_t rfl rfl) (ol_nil (pq_then ?_)))))))
        refine cw_cond rfl (fun h82 => ?_) (fun h82 => ?_)
        ·
         try simp only [dqT, dqF, dq1, dq2, dq3, dq4, dq5] at h82
         refine al_start' hS (hS.take 0) (by kernel_rfl) rfl (fun w hS hT => ?_)
         refine al_take (i := 0) rfl (by kernel_rfl) (by kernel_rfl) (by kernel_rfl) rfl (fun _ _ _ h => h) (op_move rfl) rfl (al_take (i := 1) rfl (by kernel_rfl) (by kernel_rfl) (by kernel_rfl) rfl (fun _ _ _ h => h) (op_move rfl) rfl (al_take (i := 2) rfl (by kernel_rfl) (by kernel_rfl) (by kernel_rfl) rfl (fun _ _ _ h => h) (op_indexN sl_59 rfl rfl (by omega) hoa) rfl (al_take (i := 3) rfl (by kernel_rfl) (by kernel_rfl) (by kernel_rfl) rfl (fun _ _ _ h => h) (op_fieldAddr fld_58_1 rfl) rfl (al_load (i := 4) rfl (by kernel_rfl) (by kernel_rfl) (by kernel_rfl) rfl (fun _ _ _ h => h) (by exact op_load1 one_9 rfl (fun w hw => hw.gcell (hcells 1 _ rfl))) rfl hT (al_take (i := 6) rfl (by kernel_rfl) (by kernel_rfl) (by kernel_rfl) rfl (fun _ _ _ h => h) (op_move rfl) rfl (al_take (i := 7) rfl (by kernel_rfl) (by kernel_rfl) (by kernel_rfl) rfl (fun _ _ _ h => h) (op_move rfl) rfl (al_take (i := 8) rfl (by kernel_rfl) (by kernel_rfl) (by kernel_rfl) rfl (fun _ _ _ h => h) (op_indexN sl_59 rfl rfl (by omega) hoa) rfl ?_)))))))
         refine al_take (i := 9) rfl (by kernel_rfl) (by kernel_rfl) (by kernel_rfl) rfl (fun _ _ _ h => h) (op_fieldAddr fld_58_2 rfl) rfl (al_load (i := 10) rfl (by kernel_rfl) (by kernel_rfl) (by kernel_rfl) rfl (fun _ _ _ h => h) (by exact op_load1 one_3 rfl (fun w hw => hw.gcell (hcells 2 _ rfl))) rfl hT (al_take (i := 11) rfl (by kernel_rfl) (by kernel_rfl) (by kernel_rfl) rfl (fun _ _ _ h => h) (op_val (v' := .int .i64 (l[i].n % 4)) (op_and rfl rfl) (congrArg (Value.int .i64) (and3 _))) rfl ?_))
         refine al_step (i := 5) rfl (by kernel_rfl) rfl (op_call cf_62 rfl (R03_name_c hS l[i].name hbd.2.2)) ?_
         clear hS
         rintro _ w ⟨nm, rfl, hnm, hS⟩
         have hT := hT.back hS (by first | exact Le.refl _ | assumption) (fun x hx => by simp at hx)
         refine ⟨fun _ _ => hT, ?_⟩
         refine al_take (i := 12) rfl (by kernel_rfl) (by kernel_rfl) (by kernel_rfl) rfl (fun _ _ _ h => h) (op_build (is := [0, 1, 2]) (xs := [.const (.int .i64 (3)), .tmp 88, .tmp 94]) (v := .agg #[.int .i64 3, .string nm, .int .i64 (l[i].n % 4)]) rfl rfl (fun w => by kernel_rfl)) rfl ?_
         refine al_step0 (i := 13) rfl (by kernel_rfl) (op_storeN (j := 0) hS sz_58 rfl rfl rfl rfl rfl (by simp [Value.oneCell'])) ?_
         clear hS
         rintro _ w hS; (try simp only [List.nil_append, List.cons_append, List.set] at hS)
         refine ⟨no_need (by kernel_rfl), ?_⟩
         refine al_done (by kernel_rfl) ?_
         refine pq_cut _ (by exact ⟨⟨3, nm, l[i].n % 4⟩, rfl, by simp only [cellB, hnm]; simp; omega, by simp only [nfC]; simp; omega, hS⟩) ((Sub.cons rfl (Sub.cons rfl (Sub.cons rfl (Sub.cons rfl (Sub.cons rfl (Sub.cons rfl Sub.nil)))))))
        ·
         try simp only [dqT, dqF, dq1, dq2, dq3, dq4, dq5] at h82
         refine cw_skip ?_
         refine pq_cut _ (by exact ⟨⟨3, ⟨#[97]⟩, 0⟩, rfl, by simp only [cellB, name_a]; simp, by simp only [nfC]; simp; omega, hS⟩) ((Sub.cons rfl (Sub.cons rfl (Sub.cons rfl (Sub.cons rfl (Sub.cons rfl (Sub.cons rfl Sub.nil)))))))
       ·
        try simp only [dqT, dqF, dq1, dq2, dq3, dq4, dq5] at h68
        refine ol_guard_no rfl rfl rfl rfl (ol_guard_no rfl rfl rfl rfl (ol_guard_no rfl rfl rfl rfl (ol_guard_no rfl rfl rfl rfl (ol_guard_no rfl rfl rfl rfl (ol_guard_no rfl rfl rfl rfl (ol_guard_no rfl rfl rfl rfl (ol_guard_no rfl rfl rfl rfl ?_)))))))
        refine ol_guard_no rfl rfl rfl rfl (ol_guard_no rfl rfl rfl rfl (ol_guard_no rfl rfl rfl rfl (ol_guard_no rfl rfl rfl rfl (ol_guard_no rfl rfl rfl rfl (ol_pure rfl (op_pick_f rfl rfl) (ol_nil (pq_then ?_)))))))
        refine cw_cond_f rfl (cw_skip ?_)
        refine pq_cut _ (by exact ⟨⟨3, ⟨#[97]⟩, 0⟩, rfl, by simp only [cellB, name_a]; simp, by simp only [nfC]; simp; omega, hS⟩) ((Sub.cons rfl (Sub.cons rfl (Sub.cons rfl (Sub.cons rfl (Sub.cons rfl (Sub.cons rfl Sub.nil)))))))
    clear hS
    rintro e w ⟨x, rfl, hx, hxn, hS⟩
    unfold cellV at hS
    have hst := hO.step (by omega) hx
    refine cw_seq (cw_region (ol_pure rfl (op_move rfl) (ol_pure rfl (op_sub rfl rfl (by omega) (by omega)) (ol_pure rfl (op_assign rfl) (ol_nil (pq_then (cw_seq ?_)))))))
    refine cw_seq (cw_region (ol_pure rfl (op_fieldAddr fld_58_0 rfl) (ol_load rfl (op_load1 one_3 rfl (fun w hw => (hw.bcell (i := 0) rfl).trans rfl)) hS (ol_pure rfl (op_eql rfl rfl) (ol_nil (pq_then ?_))))))
    refine cw_cond rfl (fun h100 => ?_) (fun h100 => ?_)
    ·
     try simp only [dqT, dqF, dq1, dq2, dq3, dq4, dq5] at h100
     have hnf : nfC x = x.n := by rw [nfC, if_pos h100]
     have hxb := (cellB_bd hx).2.1
     refine cw_region (ol_pure rfl (op_move rfl) (ol_pure rfl (op_fieldAddr fld_58_2 rfl) (ol_load rfl (op_load1 one_3 rfl (fun w hw => (hw.bcell (i := 0) rfl).trans rfl)) hS (ol_pure rfl (op_add rfl rfl (by omega) (by omega)) (ol_pure rfl (op_assign rfl) (ol_nil (pq_then ?_)))))))
     refine cw_region (ol_pure rfl (op_move rfl) (ol_load rfl (op_loadN agg_58 rfl (by rfl) (fun w hw k u hk => (hw.bcell (i := 0) rfl).trans hk)) hS ?_))
     refine ol_step rfl (op_buildSlice (el := 58) (is := [0]) (xs := [.tmp 106]) (sz := 3) (cs := cellV x) hS rfl rfl (fun w => by kernel_rfl) rfl (by decide)) ?_
     clear hS
     rintro _ w ⟨s107, rfl, hS⟩
     refine ol_step rfl (op_append (j := 2) hS sl_59 el_58 rfl rfl rfl rfl rfl rfl (by decide) (hS.news (j := 0) rfl) (by simp [cellV, Value.oneCell']) (by omega) (by unfold maxLen; omega)) ?_
     clear hS
     rintro _ w ⟨oq, c_oq, rfl, hS⟩; (try simp only [List.nil_append, List.cons_append, List.set] at hS); replace hS := SS.drop [] hS; (try simp only [List.nil_append, List.cons_append] at hS)
     refine ol_pure rfl (op_assign rfl) (ol_nil (pq_in_normal (pq_then (cw_region (ol_pure rfl (op_move rfl) (ol_pure rfl (op_add rfl rfl (by omega) (by omega)) (ol_pure rfl (op_assign rfl) ?_)))))))
     refine ol_nil ?_
     have he : out.length + 1 = (out ++ [x]).length := by simp
     rw [he] at hS ⊢
     refine pq_loop _ _ (by exact ⟨out ++ [x], need - 1 + x.n, i + 1, oq, c_oq, rfl, by have := nfC_nonneg hx; omega, by simp only [List.length_append, List.length_cons, List.length_nil]; omega, by omega, by rw [← hnf]; exact hst, fun c hc => (List.mem_append.1 hc).elim (hob c) (fun h => by rw [show c = x from by simpa using h]; exact cellB_bd hx), rfl, by rw [cellsV_app]; simpa [cellsV] using SS.drop [] hS⟩) (Sub.cons rfl (Sub.cons rfl (Sub.cons rfl (Sub.cons rfl (Sub.cons rfl (Sub.nil)))))) (by simp only [List.length_append, List.length_cons, List.length_nil]; omega)
    ·
     try simp only [dqT, dqF, dq1, dq2, dq3, dq4, dq5] at h100
     have hnf : nfC x = 0 := by rw [nfC, if_neg h100]
     refine cw_skip (pq_then (cw_region (ol_pure rfl (op_move rfl) (ol_load rfl (op_loadN agg_58 rfl (by rfl) (fun w hw k u hk => (hw.bcell (i := 0) rfl).trans hk)) hS ?_))))
     refine ol_step rfl (op_buildSlice (el := 58) (is := [0]) (xs := [.tmp 106]) (sz := 3) (cs := cellV x) hS rfl rfl (fun w => by kernel_rfl) rfl (by decide)) ?_
     clear hS
     rintro _ w ⟨s107, rfl, hS⟩
     refine ol_step rfl (op_append (j := 2) hS sl_59 el_58 rfl rfl rfl rfl rfl rfl (by decide) (hS.news (j := 0) rfl) (by simp [cellV, Value.oneCell']) (by omega) (by unfold maxLen; omega)) ?_
     clear hS
     rintro _ w ⟨oq, c_oq, rfl, hS⟩; (try simp only [List.nil_append, List.cons_append, List.set] at hS); replace hS := SS.drop [] hS; (try simp only [List.nil_append, List.cons_append] at hS)
     refine ol_pure rfl (op_assign rfl) (ol_nil (pq_in_normal (pq_then (cw_region (ol_pure rfl (op_move rfl) (ol_pure rfl (op_add rfl rfl (by omega) (by omega)) (ol_pure rfl (op_assign rfl) ?_)))))))
     refine ol_nil ?_
     have he : out.length + 1 = (out ++ [x]).length := by simp
     rw [he] at hS ⊢
     refine pq_loop _ _ (by exact ⟨out ++ [x], need - 1, i + 1, oq, c_oq, rfl, by omega, by simp only [List.length_append, List.length_cons, List.length_nil]; omega, by omega, by rw [hnf, Int.add_zero] at hst; exact hst, fun c hc => (List.mem_append.1 hc).elim (hob c) (fun h => by rw [show c = x from by simpa using h]; exact cellB_bd hx), rfl, by rw [cellsV_app]; simpa [cellsV] using SS.drop [] hS⟩) (Sub.cons rfl (Sub.cons rfl (Sub.cons rfl (Sub.cons rfl (Sub.cons rfl (Sub.nil)))))) (by simp only [List.length_append, List.length_cons, List.length_nil]; omega)
   ·
    try simp only [dqT, dqF, dq1, dq2, dq3, dq4, dq5] at h20
    refine cw_exit (pq_exit (pq_exit (pq_in_exit (pq_then (cw_seq (cw_region (ol_pure rfl (op_move rfl) ?_)))))))
    refine ol_pure rfl (op_assign rfl) (ol_nil (pq_then (cw_ret (ret1 rfl rfl ?_))))
    obtain ⟨Ga, hla, hSa, hRC⟩ := SS.give' out [] ECell.mono hS (by decide) (Rows.cells hob) rfl
    exact hSa.rt _ ⟨out, hRC, hO.1 (by omega), by omega⟩
 ·
  try simp only [dqT, dqF, dq1, dq2, dq3, dq4, dq5] at h11
  refine ol_guard_no rfl rfl rfl rfl (ol_guard_no rfl rfl rfl rfl (ol_guard_no rfl rfl rfl rfl (ol_guard_no rfl rfl rfl rfl (ol_pure rfl (op_pick_f rfl rfl) (ol_nil (pq_then (cw_cond_f rfl ?_)))))))
  refine cw_skip (pq_then (cw_seq (cw_region ?_)))
  refine ol_step rfl (op_buildSlice (el := 58) (is := []) (xs := []) (sz := 3) (cs := []) hS rfl rfl (fun w => by kernel_rfl) rfl (by decide)) ?_
  clear hS
  rintro _ w ⟨o5, rfl, hS⟩
  refine ol_pure rfl (op_assign rfl) (ol_pure rfl (op_assign rfl) (ol_nil (pq_then (cw_seq (cw_seq (cw_region (ol_pure rfl (op_assign rfl) ?_)))))))
  refine ol_nil (pq_then (cw_block ?_))
  refine cw_loop (fun e w n => ∃ (out : List Cell) (need : Int) (i : Nat) (o5 : Option Addr) (c5 : Nat), e = [(0, .slice oa l.length ca), (1, .int .i64 10), (5, .slice o5 out.length c5), (6, .int .i64 need), (7, .int .i64 (i : Nat))] ∧ 0 ≤ need ∧ (out.length : Int) + need ≤ 10 ∧ i = out.length ∧ OpenT out need ∧ (∀ c ∈ out, CellBd c) ∧ n = 10 - out.length ∧ SS G w0 G [.row o5 out.length c5 58 3 (cellsV out)] w) _ _ (by exact ⟨[], 1, 0, o5, _, rfl, by omega, by simp, rfl, ⟨by omega, fun _ _ => rfl⟩, by simp, rfl, hS⟩) ((Sub.cons rfl (Sub.cons rfl (Sub.cons rfl (Sub.cons rfl (Sub.cons rfl Sub.nil)))))) ?_
  clear hS
  rintro e w n ⟨out, need, i, o5, c5, rfl, hn0, hn1, hil, hO, hob, rfl, hS⟩
  refine cw_seq (cw_seq (cw_region (ol_pure rfl (op_move rfl) (ol_pure rfl (op_gtr rfl rfl) (ol_nil (pq_then ?_))))))
  refine cw_cond rfl (fun h20 => ?_) (fun h20 => ?_)
  ·
   try simp only [dqT, dqF, dq1, dq2, dq3, dq4, dq5] at h20
   refine cw_skip (pq_then (cw_seq (cw_block (cw_seq (cw_region (ol_pure rfl (op_build (is := [0, 1]) (xs := [.const (.int .i64 (3)), .const (_)]) (v := .agg #[.int .i64 3, .string ⟨#[97]⟩, .int .i64 0]) rfl rfl (fun w => by kernel_rfl)) ?_))))))
   refine ol_step rfl (op_alloc hS el_58 rfl) ?_
   clear hS
   rintro _ w ⟨b8, rfl, hS⟩
   refine ol_step0  (op_storeN (j := 0) hS sz_58 rfl rfl rfl rfl rfl (by simp [Value.oneCell'])) ?_
   clear hS
   rintro _ w hS; (try simp only [List.nil_append, List.cons_append, List.set] at hS)
   refine ol_nil (pq_then ?_)
   refine cw_cut (fun e w => ∃ (x : Cell), e = [(0, .slice oa l.length ca), (1, .int .i64 10), (5, .slice o5 out.length c5), (6, .int .i64 need), (7, .int .i64 (i : Nat)), (8, .pointer (some ⟨b8, 0, none⟩))] ∧ cellB x = true ∧ (out.length : Int) + need - 1 + nfC x < 10 ∧ SS G w0 G [.blk b8 58 (cellV x), .row o5 out.length c5 58 3 (cellsV out)] w) ?_ ?_
   ·
    refine cw_seq (cw_region (ol_pure rfl (op_move rfl) (ol_pure rfl (op_move rfl) (ol_pure rfl (op_len sl_59 rfl rfl) (ol_pure rfl (op_lss rfl rfl) (ol_pure rfl (op_move rfl) ?_))))))
    refine ol_split (fun h28 => ?_) (fun h28 => ?_)
    ·
     try simp only [dqT, dqF, dq1, dq2, dq3, dq4, dq5] at h28
     have hlt : i < l.length := by omega
     obtain ⟨hoa, hbd, hcells⟩ := h1.cellAt hlt
     refine ol_guard_pure rfl rfl rfl (op_move rfl) (ol_guard_pure rfl rfl rfl (op_move rfl) (ol_guard_pure rfl rfl rfl (op_indexN sl_59 rfl rfl (by omega) hoa) (ol_guard_pure rfl rfl rfl (op_fieldAddr fld_58_0 rfl) (ol_guard_load rfl rfl rfl (op_load1 one_3 rfl (fun w hw => hw.gcell (hcells 0 _ rfl))) hS (ol_guard_pure rfl rfl rfl (op_and rfl rfl) (ol_guard_pure rfl rfl rfl (op_eql rfl rfl) (ol_pure rfl (op_pick_t rfl rfl) ?_)))))))
     refine ol_nil (pq_then ?_)
     refine cw_cond rfl (fun h36 => ?_) (fun h36 => ?_)
     ·
      try simp only [dqT, dqF, dq1, dq2, dq3, dq4, dq5] at h36
      refine cw_region (ol_pure rfl (op_move rfl) (ol_pure rfl (op_move rfl) (ol_pure rfl (op_indexN sl_59 rfl rfl (by omega) hoa) (ol_pure rfl (op_fieldAddr fld_58_2 rfl) (ol_load rfl (op_load1 one_3 rfl (fun w hw => hw.gcell (hcells 2 _ rfl))) hS (ol_pure rfl (op_val (v' := .int .i64 (l[i].n % 8)) (op_and rfl rfl) (congrArg (Value.int .i64) (and7 _))) (ol_pure rfl (op_build (is := [0, 2]) (xs := [.const (.int .i64 (1)), .tmp 42]) (v := .agg #[.int .i64 1, .string ByteArray.empty, .int .i64 (l[i].n % 8)]) rfl rfl (fun w => by kernel_rfl)) ?_)))))))
      refine ol_step0  (op_storeN (j := 0) hS sz_58 rfl rfl rfl rfl rfl (by simp [Value.oneCell'])) ?_
      clear hS
      rintro _ w hS; (try simp only [List.nil_append, List.cons_append, List.set] at hS)
      refine ol_nil ?_
      refine pq_cut _ (by exact ⟨⟨1, ByteArray.empty, l[i].n % 8⟩, rfl, by simp only [cellB, empty_toList]; simp; omega, by simp only [nfC]; simp; omega, hS⟩) ((Sub.cons rfl (Sub.cons rfl (Sub.cons rfl (Sub.cons rfl (Sub.cons rfl (Sub.cons rfl Sub.nil)))))))
     ·
      try simp only [dqT, dqF, dq1, dq2, dq3, dq4, dq5] at h36
      refine cw_seq (cw_region (ol_pure rfl (op_move rfl) (ol_pure rfl (op_move rfl) (ol_pure rfl (op_len sl_59 rfl rfl) (ol_pure rfl (op_lss rfl rfl) (ol_pure rfl (op_move rfl) ?_))))))
      refine ol_split (fun h48 => ?_) (fun h48 => ?_)
      ·
       try simp only [dqT, dqF, dq1, dq2, dq3, dq4, dq5] at h48
       have hlt : i < l.length := by omega
       obtain ⟨hoa, hbd, hcells⟩ := h1.cellAt hlt
       refine ol_guard_pure rfl rfl rfl (op_move rfl) (ol_guard_pure rfl rfl rfl (op_move rfl) (ol_guard_pure rfl rfl rfl (op_indexN sl_59 rfl rfl (by omega) hoa) (ol_guard_pure rfl rfl rfl (op_fieldAddr fld_58_0 rfl) (ol_guard_load rfl rfl rfl (op_load1 one_3 rfl (fun w hw => hw.gcell (hcells 0 _ rfl))) hS (ol_guard_pure rfl rfl rfl (op_and rfl rfl) (ol_guard_pure rfl rfl rfl (op_eql rfl rfl) (ol_pure rfl (op_pick_t rfl rfl) ?_)))))))
       refine ol_nil (pq_then ?_)
       refine cw_cond rfl (fun h56 => ?_) (fun h56 => ?_)
       ·
        try simp only [dqT, dqF, dq1, dq2, dq3, dq4, dq5] at h56
        refine cw_region (ol_pure rfl (op_move rfl) (ol_pure rfl (op_move rfl) (ol_pure rfl (op_indexN sl_59 rfl rfl (by omega) hoa) (ol_pure rfl (op_fieldAddr fld_58_2 rfl) (ol_load rfl (op_load1 one_3 rfl (fun w hw => hw.gcell (hcells 2 _ rfl))) hS (ol_pure rfl (op_val (v' := .int .i64 (l[i].n % 4)) (op_and rfl rfl) (congrArg (Value.int .i64) (and3 _))) (ol_pure rfl (op_build (is := [0, 2]) (xs := [.const (.int .i64 (2)), .tmp 62]) (v := .agg #[.int .i64 2, .string ByteArray.empty, .int .i64 (l[i].n % 4)]) rfl rfl (fun w => by kernel_rfl)) ?_)))))))
        refine ol_step0  (op_storeN (j := 0) hS sz_58 rfl rfl rfl rfl rfl (by simp [Value.oneCell'])) ?_
        clear hS
        rintro _ w hS; (try simp only [List.nil_append, List.cons_append, List.set] at hS)
        refine ol_nil ?_
        refine pq_cut _ (by exact ⟨⟨2, ByteArray.empty, l[i].n % 4⟩, rfl, by simp only [cellB, empty_toList]; simp; omega, by simp only [nfC]; simp; omega, hS⟩) ((Sub.cons rfl (Sub.cons rfl (Sub.cons rfl (Sub.cons rfl (Sub.cons rfl (Sub.cons rfl Sub.nil)))))))
       ·
        try simp only [dqT, dqF, dq1, dq2, dq3, dq4, dq5] at h56
        refine cw_seq (cw_region (ol_pure rfl (op_move rfl) (ol_pure rfl (op_move rfl) (ol_pure rfl (op_len sl_59 rfl rfl) (ol_pure rfl (op_lss rfl rfl) (ol_pure rfl (op_move rfl) ?_))))))
        refine ol_split (fun h68 => ?_) (fun h68 => ?_)
        ·
         try simp only [dqT, dqF, dq1, dq2, dq3, dq4, dq5] at h68
         have hlt : i < l.length := by omega
         obtain ⟨hoa, hbd, hcells⟩ := h1.cellAt hlt
         refine ol_guard_pure rfl rfl rfl (op_move rfl) (ol_guard_pure rfl rfl rfl (op_len sl_59 rfl rfl) (ol_guard_pure rfl rfl rfl (op_move rfl) (ol_guard_pure rfl rfl rfl (op_add rfl rfl (by omega) (by omega)) (ol_guard_pure rfl rfl rfl (op_move rfl) (ol_guard_pure rfl rfl rfl (op_move rfl) (ol_guard_pure rfl rfl rfl (op_indexN sl_59 rfl rfl (by omega) hoa) (ol_guard_pure rfl rfl rfl (op_fieldAddr fld_58_2 rfl) ?_)))))))
         refine ol_guard_load rfl rfl rfl (op_load1 one_3 rfl (fun w hw => hw.gcell (hcells 2 _ rfl))) hS (ol_guard_pure rfl rfl rfl (op_val (v' := .int .i64 (l[i].n % 4)) (op_and rfl rfl) (congrArg (Value.int .i64) (and3 _))) (ol_guard_pure rfl rfl rfl (op_add rfl rfl (by omega) (by omega)) (ol_guard_pure rfl rfl rfl (op_move rfl) (ol_guard_pure rfl rfl rfl (op_leq rfl rfl) (ol_pure rfl (op_pick_t rfl rfl) (ol_nil (pq_then ?_)))))))
         refine cw_cond rfl (fun h82 => ?_) (fun h82 => ?_)
         ·
          try simp only [dqT, dqF, dq1, dq2, dq3, dq4, dq5] at h82
          refine al_start' hS (hS.take 0) (by kernel_rfl) rfl (fun w hS hT => ?_)
          refine al_take (i := 0) rfl (by kernel_rfl) (by kernel_rfl) (by kernel_rfl) rfl (fun _ _ _ h => h) (op_move rfl) rfl (al_take (i := 1) rfl (by kernel_rfl) (by kernel_rfl) (by kernel_rfl) rfl (fun _ _ _ h => h) (op_move rfl) rfl (al_take (i := 2) rfl (by kernel_rfl) (by kernel_rfl) (by kernel_rfl) rfl (fun _ _ _ h => h) (op_indexN sl_59 rfl rfl (by omega) hoa) rfl (al_take (i := 3) rfl (by kernel_rfl) (by kernel_rfl) (by kernel_rfl) rfl (fun _ _ _ h => h) (op_fieldAddr fld_58_1 rfl) rfl (al_load (i := 4) rfl (by kernel_rfl) (by kernel_rfl) (by kernel_rfl) rfl (fun _ _ _ h => h) (by exact op_load1 one_9 rfl (fun w hw => hw.gcell (hcells 1 _ rfl))) rfl hT (al_take (i := 6) rfl (by kernel_rfl) (by kernel_rfl) (by kernel_rfl) rfl (fun _ _ _ h => h) (op_move rfl) rfl (al_take (i := 7) rfl (by kernel_rfl) (by kernel_rfl) (by kernel_rfl) rfl (fun _ _ _ h => h) (op_move rfl) rfl (al_take (i := 8) rfl (by kernel_rfl) (by kernel_rfl) (by kernel_rfl) rfl (fun _ _ _ h => h) (op_indexN sl_59 rfl rfl (by omega) hoa) rfl ?_)))))))
          refine al_take (i := 9) rfl (by kernel_rfl) (by kernel_rfl) (by kernel_rfl) rfl (fun _ _ _ h => h) (op_fieldAddr fld_58_2 rfl) rfl (al_load (i := 10) rfl (by kernel_rfl) (by kernel_rfl) (by kernel_rfl) rfl (fun _ _ _ h => h) (by exact op_load1 one_3 rfl (fun w hw => hw.gcell (hcells 2 _ rfl))) rfl hT (al_take (i := 11) rfl (by kernel_rfl) (by kernel_rfl) (by kernel_rfl) rfl (fun _ _ _ h => h) (op_val (v' := .int .i64 (l[i].n % 4)) (op_and rfl rfl) (congrArg (Value.int .i64) (and3 _))) rfl ?_))
          refine al_step (i := 5) rfl (by kernel_rfl) rfl (op_call cf_62 rfl (R03_name_c hS l[i].name hbd.2.2)) ?_
          clear hS
          rintro _ w ⟨nm, rfl, hnm, hS⟩
          have hT := hT.back hS (by first | exact Le.refl _ | assumption) (fun x hx => by simp at hx)
          refine ⟨fun _ _ => hT, ?_⟩
          refine al_take (i := 12) rfl (by kernel_rfl) (by kernel_rfl) (by kernel_rfl) rfl (fun _ _ _ h => h) (op_build (is := [0, 1, 2]) (xs := [.const (.int .i64 (3)), .tmp 88, .tmp 94]) (v := .agg #[.int .i64 3, .string nm, .int .i64 (l[i].n % 4)]) rfl rfl (fun w => by kernel_rfl)) rfl ?_
          refine al_step0 (i := 13) rfl (by kernel_rfl) (op_storeN (j := 0) hS sz_58 rfl rfl rfl rfl rfl (by simp [Value.oneCell'])) ?_
          clear hS
          rintro _ w hS; (try simp only [List.nil_append, List.cons_append, List.set] at hS)
          refine ⟨no_need (by kernel_rfl), ?_⟩
          refine al_done (by kernel_rfl) ?_
          refine pq_cut _ (by exact ⟨⟨3, nm, l[i].n % 4⟩, rfl, by simp only [cellB, hnm]; simp; omega, by simp only [nfC]; simp; omega, hS⟩) ((Sub.cons rfl (Sub.cons rfl (Sub.cons rfl (Sub.cons rfl (Sub.cons rfl (Sub.cons rfl Sub.nil)))))))
         ·
          try simp only [dqT, dqF, dq1, dq2, dq3, dq4, dq5] at h82
          refine cw_skip ?_
          refine pq_cut _ (by exact ⟨⟨3, ⟨#[97]⟩, 0⟩, rfl, by simp only [cellB, name_a]; simp, by simp only [nfC]; simp; omega, hS⟩) ((Sub.cons rfl (Sub.cons rfl (Sub.cons rfl (Sub.cons rfl (Sub.cons rfl (Sub.cons rfl Sub.nil)))))))
        ·
         try simp only [dqT, dqF, dq1, dq2, dq3, dq4, dq5] at h68
         refine ol_guard_no rfl rfl rfl rfl (ol_guard_no rfl rfl rfl rfl (ol_guard_no rfl rfl rfl rfl (ol_guard_no rfl rfl rfl rfl (ol_guard_no rfl rfl rfl rfl (ol_guard_no rfl rfl rfl rfl (ol_guard_no rfl rfl rfl rfl (ol_guard_no rfl rfl rfl rfl ?_)))))))
         refine ol_guard_no rfl rfl rfl rfl (ol_guard_no rfl rfl rfl rfl (ol_guard_no rfl rfl rfl rfl (ol_guard_no rfl rfl rfl rfl (ol_guard_no rfl rfl rfl rfl (ol_pure rfl (op_pick_f rfl rfl) (ol_nil (pq_then ?_)))))))
         refine cw_cond_f rfl (cw_skip ?_)
         refine pq_cut _ (by exact ⟨⟨3, ⟨#[97]⟩, 0⟩, rfl, by simp only [cellB, name_a]; simp, by simp only [nfC]; simp; omega, hS⟩) ((Sub.cons rfl (Sub.cons rfl (Sub.cons rfl (Sub.cons rfl (Sub.cons rfl (Sub.cons rfl Sub.nil)))))))
      ·
       try simp only [dqT, dqF, dq1, dq2, dq3, dq4, dq5] at h48
       refine ol_guard_no rfl rfl rfl rfl (ol_guard_no rfl rfl rfl rfl (ol_guard_no rfl rfl rfl rfl (ol_guard_no rfl rfl rfl rfl (ol_guard_no rfl rfl rfl rfl (ol_guard_no rfl rfl rfl rfl (ol_guard_no rfl rfl rfl rfl (ol_pure rfl (op_pick_f rfl rfl) ?_)))))))
       refine ol_nil (pq_then (cw_cond_f rfl (cw_seq (cw_region (ol_pure rfl (op_move rfl) (ol_pure rfl (op_move rfl) (ol_pure rfl (op_len sl_59 rfl rfl) ?_)))))))
       refine ol_pure rfl (op_lss rfl rfl) (ol_pure rfl (op_move rfl) ?_)
       refine ol_split (fun h68 => ?_) (fun h68 => ?_)
       ·
        try simp only [dqT, dqF, dq1, dq2, dq3, dq4, dq5] at h68
        have hlt : i < l.length := by omega
        obtain ⟨hoa, hbd, hcells⟩ := h1.cellAt hlt
        refine ol_guard_pure rfl rfl rfl (op_move rfl) (ol_guard_pure rfl rfl rfl (op_len sl_59 rfl rfl) (ol_guard_pure rfl rfl rfl (op_move rfl) (ol_guard_pure rfl rfl rfl (op_add rfl rfl (by omega) (by omega)) (ol_guard_pure rfl rfl rfl (op_move rfl) (ol_guard_pure rfl rfl rfl (op_move rfl) (ol_guard_pure rfl rfl rfl (op_indexN sl_59 rfl rfl (by omega) hoa) (ol_guard_pure rfl rfl rfl (op_fieldAddr fld_58_2 rfl) ?_)))))))
        refine ol_guard_load rfl rfl rfl (op_load1 one_3 rfl (fun w hw => hw.gcell (hcells 2 _ rfl))) hS (ol_guard_pure rfl rfl rfl (op_val (v' := .int .i64 (l[i].n % 4)) (op_and rfl rfl) (congrArg (Value.int .i64) (and3 _))) (ol_guard_pure rfl rfl rfl (op_add rfl rfl (by omega) (by omega)) (ol_guard_pure rfl rfl rfl (op_move rfl) (ol_guard_pure rfl rfl rfl (op_leq rfl rfl) (ol_pure rfl (op_pick_t rfl rfl) (ol_nil (pq_then ?_)))))))
        refine cw_cond rfl (fun h82 => ?_) (fun h82 => ?_)
        ·
         try simp only [dqT, dqF, dq1, dq2, dq3, dq4, dq5] at h82
         refine al_start' hS (hS.take 0) (by kernel_rfl) rfl (fun w hS hT => ?_)
         refine al_take (i := 0) rfl (by kernel_rfl) (by kernel_rfl) (by kernel_rfl) rfl (fun _ _ _ h => h) (op_move rfl) rfl (al_take (i := 1) rfl (by kernel_rfl) (by kernel_rfl) (by kernel_rfl) rfl (fun _ _ _ h => h) (op_move rfl) rfl (al_take (i := 2) rfl (by kernel_rfl) (by kernel_rfl) (by kernel_rfl) rfl (fun _ _ _ h => h) (op_indexN sl_59 rfl rfl (by omega) hoa) rfl (al_take (i := 3) rfl (by kernel_rfl) (by kernel_rfl) (by kernel_rfl) rfl (fun _ _ _ h => h) (op_fieldAddr fld_58_1 rfl) rfl (al_load (i := 4) rfl (by kernel_rfl) (by kernel_rfl) (by kernel_rfl) rfl (fun _ _ _ h => h) (by exact op_load1 one_9 rfl (fun w hw => hw.gcell (hcells 1 _ rfl))) rfl hT (al_take (i := 6) rfl (by kernel_rfl) (by kernel_rfl) (by kernel_rfl) rfl (fun _ _ _ h => h) (op_move rfl) rfl (al_take (i := 7) rfl (by kernel_rfl) (by kernel_rfl) (by kernel_rfl) rfl (fun _ _ _ h => h) (op_move rfl) rfl (al_take (i := 8) rfl (by kernel_rfl) (by kernel_rfl) (by kernel_rfl) rfl (fun _ _ _ h => h) (op_indexN sl_59 rfl rfl (by omega) hoa) rfl ?_)))))))
         refine al_take (i := 9) rfl (by kernel_rfl) (by kernel_rfl) (by kernel_rfl) rfl (fun _ _ _ h => h) (op_fieldAddr fld_58_2 rfl) rfl (al_load (i := 10) rfl (by kernel_rfl) (by kernel_rfl) (by kernel_rfl) rfl (fun _ _ _ h => h) (by exact op_load1 one_3 rfl (fun w hw => hw.gcell (hcells 2 _ rfl))) rfl hT (al_take (i := 11) rfl (by kernel_rfl) (by kernel_rfl) (by kernel_rfl) rfl (fun _ _ _ h => h) (op_val (v' := .int .i64 (l[i].n % 4)) (op_and rfl rfl) (congrArg (Value.int .i64) (and3 _))) rfl ?_))
         refine al_step (i := 5) rfl (by kernel_rfl) rfl (op_call cf_62 rfl (R03_name_c hS l[i].name hbd.2.2)) ?_
         clear hS
         rintro _ w ⟨nm, rfl, hnm, hS⟩
         have hT := hT.back hS (by first | exact Le.refl _ | assumption) (fun x hx => by simp at hx)
         refine ⟨fun _ _ => hT, ?_⟩
         refine al_take (i := 12) rfl (by kernel_rfl) (by kernel_rfl) (by kernel_rfl) rfl (fun _ _ _ h => h) (op_build (is := [0, 1, 2]) (xs := [.const (.int .i64 (3)), .tmp 88, .tmp 94]) (v := .agg #[.int .i64 3, .string nm, .int .i64 (l[i].n % 4)]) rfl rfl (fun w => by kernel_rfl)) rfl ?_
         refine al_step0 (i := 13) rfl (by kernel_rfl) (op_storeN (j := 0) hS sz_58 rfl rfl rfl rfl rfl (by simp [Value.oneCell'])) ?_
         clear hS
         rintro _ w hS; (try simp only [List.nil_append, List.cons_append, List.set] at hS)
         refine ⟨no_need (by kernel_rfl), ?_⟩
         refine al_done (by kernel_rfl) ?_
         refine pq_cut _ (by exact ⟨⟨3, nm, l[i].n % 4⟩, rfl, by simp only [cellB, hnm]; simp; omega, by simp only [nfC]; simp; omega, hS⟩) ((Sub.cons rfl (Sub.cons rfl (Sub.cons rfl (Sub.cons rfl (Sub.cons rfl (Sub.cons rfl Sub.nil)))))))
        ·
         try simp only [dqT, dqF, dq1, dq2, dq3, dq4, dq5] at h82
         refine cw_skip ?_
         refine pq_cut _ (by exact ⟨⟨3, ⟨#[97]⟩, 0⟩, rfl, by simp only [cellB, name_a]; simp, by simp only [nfC]; simp; omega, hS⟩) ((Sub.cons rfl (Sub.cons rfl (Sub.cons rfl (Sub.cons rfl (Sub.cons rfl (Sub.cons rfl Sub.nil)))))))
       ·
        try simp only [dqT, dqF, dq1, dq2, dq3, dq4, dq5] at h68
        refine ol_guard_no rfl rfl rfl rfl (ol_guard_no rfl rfl rfl rfl (ol_guard_no rfl rfl rfl rfl (ol_guard_no rfl rfl rfl rfl (ol_guard_no rfl rfl rfl rfl (ol_guard_no rfl rfl rfl rfl (ol_guard_no rfl rfl rfl rfl (ol_guard_no rfl rfl rfl rfl ?_)))))))
        refine ol_guard_no rfl rfl rfl rfl (ol_guard_no rfl rfl rfl rfl (ol_guard_no rfl rfl rfl rfl (ol_guard_no rfl rfl rfl rfl (ol_guard_no rfl rfl rfl rfl (ol_pure rfl (op_pick_f rfl rfl) (ol_nil (pq_then ?_)))))))
        refine cw_cond_f rfl (cw_skip ?_)
        refine pq_cut _ (by exact ⟨⟨3, ⟨#[97]⟩, 0⟩, rfl, by simp only [cellB, name_a]; simp, by simp only [nfC]; simp; omega, hS⟩) ((Sub.cons rfl (Sub.cons rfl (Sub.cons rfl (Sub.cons rfl (Sub.cons rfl (Sub.cons rfl Sub.nil)))))))
    ·
     try simp only [dqT, dqF, dq1, dq2, dq3, dq4, dq5] at h28
     refine ol_guard_no rfl rfl rfl rfl (ol_guard_no rfl rfl rfl rfl (ol_guard_no rfl rfl rfl rfl (ol_guard_no rfl rfl rfl rfl (ol_guard_no rfl rfl rfl rfl (ol_guard_no rfl rfl rfl rfl (ol_guard_no rfl rfl rfl rfl (ol_pure rfl (op_pick_f rfl rfl) ?_)))))))
     refine ol_nil (pq_then (cw_cond_f rfl (cw_seq (cw_region (ol_pure rfl (op_move rfl) (ol_pure rfl (op_move rfl) (ol_pure rfl (op_len sl_59 rfl rfl) ?_)))))))
     refine ol_pure rfl (op_lss rfl rfl) (ol_pure rfl (op_move rfl) ?_)
     refine ol_split (fun h48 => ?_) (fun h48 => ?_)
     ·
      try simp only [dqT, dqF, dq1, dq2, dq3, dq4, dq5] at h48
      have hlt : i < l.length := by omega
      obtain ⟨hoa, hbd, hcells⟩ := h1.cellAt hlt
      refine ol_guard_pure rfl rfl rfl (op_move rfl) (ol_guard_pure rfl rfl rfl (op_move rfl) (ol_guard_pure rfl rfl rfl (op_indexN sl_59 rfl rfl (by omega) hoa) (ol_guard_pure rfl rfl rfl (op_fieldAddr fld_58_0 rfl) (ol_guard_load rfl rfl rfl (op_load1 one_3 rfl (fun w hw => hw.gcell (hcells 0 _ rfl))) hS (ol_guard_pure rfl rfl rfl (op_and rfl rfl) (ol_guard_pure rfl rfl rfl (op_eql rfl rfl) (ol_pure rfl (op_pick_t rfl rfl) ?_)))))))
      refine ol_nil (pq_then ?_)
      refine cw_cond rfl (fun h56 => ?_) (fun h56 => ?_)
      ·
       try simp only [dqT, dqF, dq1, dq2, dq3, dq4, dq5] at h56
       refine cw_region (ol_pure rfl (op_move rfl) (ol_pure rfl (op_move rfl) (ol_pure rfl (op_indexN sl_59 rfl rfl (by omega) hoa) (ol_pure rfl (op_fieldAddr fld_58_2 rfl) (ol_load rfl (op_load1 one_3 rfl (fun w hw => hw.gcell (hcells 2 _ rfl))) hS (ol_pure rfl (op_val (v' := .int .i64 (l[i].n % 4)) (op_and rfl rfl) (congrArg (Value.int .i64) (and3 _))) (ol_pure rfl (op_build (is := [0, 2]) (xs := [.const (.int .i64 (2)), .tmp 62]) (v := .agg #[.int .i64 2, .string ByteArray.empty, .int .i64 (l[i].n % 4)]) rfl rfl (fun w => by kernel_rfl)) ?_)))))))
       refine ol_step0  (op_storeN (j := 0) hS sz_58 rfl rfl rfl rfl rfl (by simp [Value.oneCell'])) ?_
       clear hS
       rintro _ w hS; (try simp only [List.nil_append, List.cons_append, List.set] at hS)
       refine ol_nil ?_
       refine pq_cut _ (by exact ⟨⟨2, ByteArray.empty, l[i].n % 4⟩, rfl, by simp only [cellB, empty_toList]; simp; omega, by simp only [nfC]; simp; omega, hS⟩) ((Sub.cons rfl (Sub.cons rfl (Sub.cons rfl (Sub.cons rfl (Sub.cons rfl (Sub.cons rfl Sub.nil)))))))
      ·
       try simp only [dqT, dqF, dq1, dq2, dq3, dq4, dq5] at h56
       refine cw_seq (cw_region (ol_pure rfl (op_move rfl) (ol_pure rfl (op_move rfl) (ol_pure rfl (op_len sl_59 rfl rfl) (ol_pure rfl (op_lss rfl rfl) (ol_pure rfl (op_move rfl) ?_))))))
       refine ol_split (fun h68 => ?_) (fun h68 => ?_)
       ·
        try simp only [dqT, dqF, dq1, dq2, dq3, dq4, dq5] at h68
        have hlt : i < l.length := by omega
        obtain ⟨hoa, hbd, hcells⟩ := h1.cellAt hlt
        refine ol_guard_pure rfl rfl rfl (op_move rfl) (ol_guard_pure rfl rfl rfl (op_len sl_59 rfl rfl) (ol_guard_pure rfl rfl rfl (op_move rfl) (ol_guard_pure rfl rfl rfl (op_add rfl rfl (by omega) (by omega)) (ol_guard_pure rfl rfl rfl (op_move rfl) (ol_guard_pure rfl rfl rfl (op_move rfl) (ol_guard_pure rfl rfl rfl (op_indexN sl_59 rfl rfl (by omega) hoa) (ol_guard_pure rfl rfl rfl (op_fieldAddr fld_58_2 rfl) ?_)))))))
        refine ol_guard_load rfl rfl rfl (op_load1 one_3 rfl (fun w hw => hw.gcell (hcells 2 _ rfl))) hS (ol_guard_pure rfl rfl rfl (op_val (v' := .int .i64 (l[i].n % 4)) (op_and rfl rfl) (congrArg (Value.int .i64) (and3 _))) (ol_guard_pure rfl rfl rfl (op_add rfl rfl (by omega) (by omega)) (ol_guard_pure rfl rfl rfl (op_move rfl) (ol_guard_pure rfl rfl rfl (op_leq rfl rfl) (ol_pure rfl (op_pick_t rfl rfl) (ol_nil (pq_then ?_)))))))
        refine cw_cond rfl (fun h82 => ?_) (fun h82 => ?_)
        ·
         try simp only [dqT, dqF, dq1, dq2, dq3, dq4, dq5] at h82
         refine al_start' hS (hS.take 0) (by kernel_rfl) rfl (fun w hS hT => ?_)
         refine al_take (i := 0) rfl (by kernel_rfl) (by kernel_rfl) (by kernel_rfl) rfl (fun _ _ _ h => h) (op_move rfl) rfl (al_take (i := 1) rfl (by kernel_rfl) (by kernel_rfl) (by kernel_rfl) rfl (fun _ _ _ h => h) (op_move rfl) rfl (al_take (i := 2) rfl (by kernel_rfl) (by kernel_rfl) (by kernel_rfl) rfl (fun _ _ _ h => h) (op_indexN sl_59 rfl rfl (by omega) hoa) rfl (al_take (i := 3) rfl (by kernel_rfl) (by kernel_rfl) (by kernel_rfl) rfl (fun _ _ _ h => h) (op_fieldAddr fld_58_1 rfl) rfl (al_load (i := 4) rfl (by kernel_rfl) (by kernel_rfl) (by kernel_rfl) rfl (fun _ _ _ h => h) (by exact op_load1 one_9 rfl (fun w hw => hw.gcell (hcells 1 _ rfl))) rfl hT (al_take (i := 6) rfl (by kernel_rfl) (by kernel_rfl) (by kernel_rfl) rfl (fun _ _ _ h => h) (op_move rfl) rfl (al_take (i := 7) rfl (by kernel_rfl) (by kernel_rfl) (by kernel_rfl) rfl (fun _ _ _ h => h) (op_move rfl) rfl (al_take (i := 8) rfl (by kernel_rfl) (by kernel_rfl) (by kernel_rfl) rfl (fun _ _ _ h => h) (op_indexN sl_59 rfl rfl (by omega) hoa) rfl ?_)))))))
         refine al_take (i := 9) rfl (by kernel_rfl) (by kernel_rfl) (by kernel_rfl) rfl (fun _ _ _ h => h) (op_fieldAddr fld_58_2 rfl) rfl (al_load (i := 10) rfl (by kernel_rfl) (by kernel_rfl) (by kernel_rfl) rfl (fun _ _ _ h => h) (by exact op_load1 one_3 rfl (fun w hw => hw.gcell (hcells 2 _ rfl))) rfl hT (al_take (i := 11) rfl (by kernel_rfl) (by kernel_rfl) (by kernel_rfl) rfl (fun _ _ _ h => h) (op_val (v' := .int .i64 (l[i].n % 4)) (op_and rfl rfl) (congrArg (Value.int .i64) (and3 _))) rfl ?_))
         refine al_step (i := 5) rfl (by kernel_rfl) rfl (op_call cf_62 rfl (R03_name_c hS l[i].name hbd.2.2)) ?_
         clear hS
         rintro _ w ⟨nm, rfl, hnm, hS⟩
         have hT := hT.back hS (by first | exact Le.refl _ | assumption) (fun x hx => by simp at hx)
         refine ⟨fun _ _ => hT, ?_⟩
         refine al_take (i := 12) rfl (by kernel_rfl) (by kernel_rfl) (by kernel_rfl) rfl (fun _ _ _ h => h) (op_build (is := [0, 1, 2]) (xs := [.const (.int .i64 (3)), .tmp 88, .tmp 94]) (v := .agg #[.int .i64 3, .string nm, .int .i64 (l[i].n % 4)]) rfl rfl (fun w => by kernel_rfl)) rfl ?_
         refine al_step0 (i := 13) rfl (by kernel_rfl) (op_storeN (j := 0) hS sz_58 rfl rfl rfl rfl rfl (by simp [Value.oneCell'])) ?_
         clear hS
         rintro _ w hS; (try simp only [List.nil_append, List.cons_append, List.set] at hS)
         refine ⟨no_need (by kernel_rfl), ?_⟩
         refine al_done (by kernel_rfl) ?_
         refine pq_cut _ (by exact ⟨⟨3, nm, l[i].n % 4⟩, rfl, by simp only [cellB, hnm]; simp; omega, by simp only [nfC]; simp; omega, hS⟩) ((Sub.cons rfl (Sub.cons rfl (Sub.cons rfl (Sub.cons rfl (Sub.cons rfl (Sub.cons rfl Sub.nil)))))))
        ·
         try simp only [dqT, dqF, dq1, dq2, dq3, dq4, dq5] at h82
         refine cw_skip ?_
         refine pq_cut _ (by exact ⟨⟨3, ⟨#[97]⟩, 0⟩, rfl, by simp only [cellB, name_a]; simp, by simp only [nfC]; simp; omega, hS⟩) ((Sub.cons rfl (Sub.cons rfl (Sub.cons rfl (Sub.cons rfl (Sub.cons rfl (Sub.cons rfl Sub.nil)))))))
       ·
        try simp only [dqT, dqF, dq1, dq2, dq3, dq4, dq5] at h68
        refine ol_guard_no rfl rfl rfl rfl (ol_guard_no rfl rfl rfl rfl (ol_guard_no rfl rfl rfl rfl (ol_guard_no rfl rfl rfl rfl (ol_guard_no rfl rfl rfl rfl (ol_guard_no rfl rfl rfl rfl (ol_guard_no rfl rfl rfl rfl (ol_guard_no rfl rfl rfl rfl ?_)))))))
        refine ol_guard_no rfl rfl rfl rfl (ol_guard_no rfl rfl rfl rfl (ol_guard_no rfl rfl rfl rfl (ol_guard_no rfl rfl rfl rfl (ol_guard_no rfl rfl rfl rfl (ol_pure rfl (op_pick_f rfl rfl) (ol_nil (pq_then ?_)))))))
        refine cw_cond_f rfl (cw_skip ?_)
        refine pq_cut _ (by exact ⟨⟨3, ⟨#[97]⟩, 0⟩, rfl, by simp only [cellB, name_a]; simp, by simp only [nfC]; simp; omega, hS⟩) ((Sub.cons rfl (Sub.cons rfl (Sub.cons rfl (Sub.cons rfl (Sub.cons rfl (Sub.cons rfl Sub.nil)))))))
     ·
      try simp only [dqT, dqF, dq1, dq2, dq3, dq4, dq5] at h48
      refine ol_guard_no rfl rfl rfl rfl (ol_guard_no rfl rfl rfl rfl (ol_guard_no rfl rfl rfl rfl (ol_guard_no rfl rfl rfl rfl (ol_guard_no rfl rfl rfl rfl (ol_guard_no rfl rfl rfl rfl (ol_guard_no rfl rfl rfl rfl (ol_pure rfl (op_pick_f rfl rfl) ?_)))))))
      refine ol_nil (pq_then (cw_cond_f rfl (cw_seq (cw_region (ol_pure rfl (op_move rfl) (ol_pure rfl (op_move rfl) (ol_pure rfl (op_len sl_59 rfl rfl) ?_)))))))
      refine ol_pure rfl (op_lss rfl rfl) (ol_pure rfl (op_move rfl) ?_)
      refine ol_split (fun h68 => ?_) (fun h68 => ?_)
      ·
       try simp only [dqT, dqF, dq1, dq2, dq3, dq4, dq5] at h68
       have hlt : i < l.length := by omega
       obtain ⟨hoa, hbd, hcells⟩ := h1.cellAt hlt
       refine ol_guard_pure rfl rfl rfl (op_move rfl) (ol_guard_pure rfl rfl rfl (op_len sl_59 rfl rfl) (ol_guard_pure rfl rfl rfl (op_move rfl) (ol_guard_pure rfl rfl rfl (op_add rfl rfl (by omega) (by omega)) (ol_guard_pure rfl rfl rfl (op_move rfl) (ol_guard_pure rfl rfl rfl (op_move rfl) (ol_guard_pure rfl rfl rfl (op_indexN sl_59 rfl rfl (by omega) hoa) (ol_guard_pure rfl rfl rfl (op_fieldAddr fld_58_2 rfl) ?_)))))))
       refine ol_guard_load rfl rfl rfl (op_load1 one_3 rfl (fun w hw => hw.gcell (hcells 2 _ rfl))) hS (ol_guard_pure rfl rfl rfl (op_val (v' := .int .i64 (l[i].n % 4)) (op_and rfl rfl) (congrArg (Value.int .i64) (and3 _))) (ol_guard_pure rfl rfl rfl (op_add rfl rfl (by omega) (by omega)) (ol_guard_pure rfl rfl rfl (op_move rfl) (ol_guard_pure rfl rfl rfl (op_leq rfl rfl) (ol_pure rfl (op_pick_t rfl rfl) (ol_nil (pq_then ?_)))))))
       refine cw_cond rfl (fun h82 => ?_) (fun h82 => ?_)
       ·
        try simp only [dqT, dqF, dq1, dq2, dq3, dq4, dq5] at h82
        refine al_start' hS (hS.take 0) (by kernel_rfl) rfl (fun w hS hT => ?_)
        refine al_take (i := 0) rfl (by kernel_rfl) (by kernel_rfl) (by kernel_rfl) rfl (fun _ _ _ h => h) (op_move rfl) rfl (al_take (i := 1) rfl (by kernel_rfl) (by kernel_rfl) (by kernel_rfl) rfl (fun _ _ _ h => h) (op_move rfl) rfl (al_take (i := 2) rfl (by kernel_rfl) (by kernel_rfl) (by kernel_rfl) rfl (fun _ _ _ h => h) (op_indexN sl_59 rfl rfl (by omega) hoa) rfl (al_take (i := 3) rfl (by kernel_rfl) (by kernel_rfl) (by kernel_rfl) rfl (fun _ _ _ h => h) (op_fieldAddr fld_58_1 rfl) rfl (al_load (i := 4) rfl (by kernel_rfl) (by kernel_rfl) (by kernel_rfl) rfl (fun _ _ _ h => h) (by exact op_load1 one_9 rfl (fun w hw => hw.gcell (hcells 1 _ rfl))) rfl hT (al_take (i := 6) rfl (by kernel_rfl) (by kernel_rfl) (by kernel_rfl) rfl (fun _ _ _ h => h) (op_move rfl) rfl (al_take (i := 7) rfl (by kernel_rfl) (by kernel_rfl) (by kernel_rfl) rfl (fun _ _ _ h => h) (op_move rfl) rfl (al_take (i := 8) rfl (by kernel_rfl) (by kernel_rfl) (by kernel_rfl) rfl (fun _ _ _ h => h) (op_indexN sl_59 rfl rfl (by omega) hoa) rfl ?_)))))))
        refine al_take (i := 9) rfl (by kernel_rfl) (by kernel_rfl) (by kernel_rfl) rfl (fun _ _ _ h => h) (op_fieldAddr fld_58_2 rfl) rfl (al_load (i := 10) rfl (by kernel_rfl) (by kernel_rfl) (by kernel_rfl) rfl (fun _ _ _ h => h) (by exact op_load1 one_3 rfl (fun w hw => hw.gcell (hcells 2 _ rfl))) rfl hT (al_take (i := 11) rfl (by kernel_rfl) (by kernel_rfl) (by kernel_rfl) rfl (fun _ _ _ h => h) (op_val (v' := .int .i64 (l[i].n % 4)) (op_and rfl rfl) (congrArg (Value.int .i64) (and3 _))) rfl ?_))
        refine al_step (i := 5) rfl (by kernel_rfl) rfl (op_call cf_62 rfl (R03_name_c hS l[i].name hbd.2.2)) ?_
        clear hS
        rintro _ w ⟨nm, rfl, hnm, hS⟩
        have hT := hT.back hS (by first | exact Le.refl _ | assumption) (fun x hx => by simp at hx)
        refine ⟨fun _ _ => hT, ?_⟩
        refine al_take (i := 12) rfl (by kernel_rfl) (by kernel_rfl) (by kernel_rfl) rfl (fun _ _ _ h => h) (op_build (is := [0, 1, 2]) (xs := [.const (.int .i64 (3)), .tmp 88, .tmp 94]) (v := .agg #[.int .i64 3, .string nm, .int .i64 (l[i].n % 4)]) rfl rfl (fun w => by kernel_rfl)) rfl ?_
        refine al_step0 (i := 13) rfl (by kernel_rfl) (op_storeN (j := 0) hS sz_58 rfl rfl rfl rfl rfl (by simp [Value.oneCell'])) ?_
        clear hS
        rintro _ w hS; (try simp only [List.nil_append, List.cons_append, List.set] at hS)
        refine ⟨no_need (by kernel_rfl), ?_⟩
        refine al_done (by kernel_rfl) ?_
        refine pq_cut _ (by exact ⟨⟨3, nm, l[i].n % 4⟩, rfl, by simp only [cellB, hnm]; simp; omega, by simp only [nfC]; simp; omega, hS⟩) ((Sub.cons rfl (Sub.cons rfl (Sub.cons rfl (Sub.cons rfl (Sub.cons rfl (Sub.cons rfl Sub.nil)))))))
       ·
        try simp only [dqT, dqF, dq1, dq2, dq3, dq4, dq5] at h82
        refine cw_skip ?_
        refine pq_cut _ (by exact ⟨⟨3, ⟨#[97]⟩, 0⟩, rfl, by simp only [cellB, name_a]; simp, by simp only [nfC]; simp; omega, hS⟩) ((Sub.cons rfl (Sub.cons rfl (Sub.cons rfl (Sub.cons rfl (Sub.cons rfl (Sub.cons rfl Sub.nil)))))))
      ·
       try simp only [dqT, dqF, dq1, dq2, dq3, dq4, dq5] at h68
       refine ol_guard_no rfl rfl rfl rfl (ol_guard_no rfl rfl rfl rfl (ol_guard_no rfl rfl rfl rfl (ol_guard_no rfl rfl rfl rfl (ol_guard_no rfl rfl rfl rfl (ol_guard_no rfl rfl rfl rfl (ol_guard_no rfl rfl rfl rfl (ol_guard_no rfl rfl rfl rfl ?_)))))))
       refine ol_guard_no rfl rfl rfl rfl (ol_guard_no rfl rfl rfl rfl (ol_guard_no rfl rfl rfl rfl (ol_guard_no rfl rfl rfl rfl (ol_guard_no rfl rfl rfl rfl (ol_pure rfl (op_pick_f rfl rfl) (ol_nil (pq_then ?_)))))))
       refine cw_cond_f rfl (cw_skip ?_)
       refine pq_cut _ (by exact ⟨⟨3, ⟨#[97]⟩, 0⟩, rfl, by simp only [cellB, name_a]; simp, by simp only [nfC]; simp; omega, hS⟩) ((Sub.cons rfl (Sub.cons rfl (Sub.cons rfl (Sub.cons rfl (Sub.cons rfl (Sub.cons rfl Sub.nil)))))))
   clear hS
   rintro e w ⟨x, rfl, hx, hxn, hS⟩
   unfold cellV at hS
   have hst := hO.step (by omega) hx
   refine cw_seq (cw_region (ol_pure rfl (op_move rfl) (ol_pure rfl (op_sub rfl rfl (by omega) (by omega)) (ol_pure rfl (op_assign rfl) (ol_nil (pq_then (cw_seq ?_)))))))
   refine cw_seq (cw_region (ol_pure rfl (op_fieldAddr fld_58_0 rfl) (ol_load rfl (op_load1 one_3 rfl (fun w hw => (hw.bcell (i := 0) rfl).trans rfl)) hS (ol_pure rfl (op_eql rfl rfl) (ol_nil (pq_then ?_))))))
   refine cw_cond rfl (fun h100 => ?_) (fun h100 => ?_)
   ·
    try simp only [dqT, dqF, dq1, dq2, dq3, dq4, dq5] at h100
    have hnf : nfC x = x.n := by rw [nfC, if_pos h100]
    have hxb := (cellB_bd hx).2.1
    refine cw_region (ol_pure rfl (op_move rfl) (ol_pure rfl (op_fieldAddr fld_58_2 rfl) (ol_load rfl (op_load1 one_3 rfl (fun w hw => (hw.bcell (i := 0) rfl).trans rfl)) hS (ol_pure rfl (op_add rfl rfl (by omega) (by omega)) (ol_pure rfl (op_assign rfl) (ol_nil (pq_then ?_)))))))
    refine cw_region (ol_pure rfl (op_move rfl) (ol_load rfl (op_loadN agg_58 rfl (by rfl) (fun w hw k u hk => (hw.bcell (i := 0) rfl).trans hk)) hS ?_))
    refine ol_step rfl (op_buildSlice (el := 58) (is := [0]) (xs := [.tmp 106]) (sz := 3) (cs := cellV x) hS rfl rfl (fun w => by kernel_rfl) rfl (by decide)) ?_
    clear hS
    rintro _ w ⟨s107, rfl, hS⟩
    refine ol_step rfl (op_append (j := 2) hS sl_59 el_58 rfl rfl rfl rfl rfl rfl (by decide) (hS.news (j := 0) rfl) (by simp [cellV, Value.oneCell']) (by omega) (by unfold maxLen; omega)) ?_
    clear hS
    rintro _ w ⟨oq, c_oq, rfl, hS⟩; (try simp only [List.nil_append, List.cons_append, List.set] at hS); replace hS := SS.drop [] hS; (try simp only [List.nil_append, List.cons_append] at hS)
    refine ol_pure rfl (op_assign rfl) (ol_nil (pq_in_normal (pq_then (cw_region (ol_pure rfl (op_move rfl) (ol_pure rfl (op_add rfl rfl (by omega) (by omega)) (ol_pure rfl (op_assign rfl) ?_)))))))
    refine ol_nil ?_
    have he : out.length + 1 = (out ++ [x]).length := by simp
    rw [he] at hS ⊢
    refine pq_loop _ _ (by exact ⟨out ++ [x], need - 1 + x.n, i + 1, oq, c_oq, rfl, by have := nfC_nonneg hx; omega, by simp only [List.length_append, List.length_cons, List.length_nil]; omega, by omega, by rw [← hnf]; exact hst, fun c hc => (List.mem_append.1 hc).elim (hob c) (fun h => by rw [show c = x from by simpa using h]; exact cellB_bd hx), rfl, by rw [cellsV_app]; simpa [cellsV] using SS.drop [] hS⟩) (Sub.cons rfl (Sub.cons rfl (Sub.cons rfl (Sub.cons rfl (Sub.cons rfl (Sub.nil)))))) (by simp only [List.length_append, List.length_cons, List.length_nil]; omega)
   ·
    try simp only [dqT, dqF, dq1, dq2, dq3, dq4, dq5] at h100
    have hnf : nfC x = 0 := by rw [nfC, if_neg h100]
    refine cw_skip (pq_then (cw_region (ol_pure rfl (op_move rfl) (ol_load rfl (op_loadN agg_58 rfl (by rfl) (fun w hw k u hk => (hw.bcell (i := 0) rfl).trans hk)) hS ?_))))
    refine ol_step rfl (op_buildSlice (el := 58) (is := [0]) (xs := [.tmp 106]) (sz := 3) (cs := cellV x) hS rfl rfl (fun w => by kernel_rfl) rfl (by decide)) ?_
    clear hS
    rintro _ w ⟨s107, rfl, hS⟩
    refine ol_step rfl (op_append (j := 2) hS sl_59 el_58 rfl rfl rfl rfl rfl rfl (by decide) (hS.news (j := 0) rfl) (by simp [cellV, Value.oneCell']) (by omega) (by unfold maxLen; omega)) ?_
    clear hS
    rintro _ w ⟨oq, c_oq, rfl, hS⟩; (try simp only [List.nil_append, List.cons_append, List.set] at hS); replace hS := SS.drop [] hS; (try simp only [List.nil_append, List.cons_append] at hS)
    refine ol_pure rfl (op_assign rfl) (ol_nil (pq_in_normal (pq_then (cw_region (ol_pure rfl (op_move rfl) (ol_pure rfl (op_add rfl rfl (by omega) (by omega)) (ol_pure rfl (op_assign rfl) ?_)))))))
    refine ol_nil ?_
    have he : out.length + 1 = (out ++ [x]).length := by simp
    rw [he] at hS ⊢
    refine pq_loop _ _ (by exact ⟨out ++ [x], need - 1, i + 1, oq, c_oq, rfl, by omega, by simp only [List.length_append, List.length_cons, List.length_nil]; omega, by omega, by rw [hnf, Int.add_zero] at hst; exact hst, fun c hc => (List.mem_append.1 hc).elim (hob c) (fun h => by rw [show c = x from by simpa using h]; exact cellB_bd hx), rfl, by rw [cellsV_app]; simpa [cellsV] using SS.drop [] hS⟩) (Sub.cons rfl (Sub.cons rfl (Sub.cons rfl (Sub.cons rfl (Sub.cons rfl (Sub.nil)))))) (by simp only [List.length_append, List.length_cons, List.length_nil]; omega)
  ·
   try simp only [dqT, dqF, dq1, dq2, dq3, dq4, dq5] at h20
   refine cw_exit (pq_exit (pq_exit (pq_in_exit (pq_then (cw_seq (cw_region (ol_pure rfl (op_move rfl) ?_)))))))
   refine ol_pure rfl (op_assign rfl) (ol_nil (pq_then (cw_ret (ret1 rfl rfl ?_))))
   obtain ⟨Ga, hla, hSa, hRC⟩ := SS.give' out [] ECell.mono hS (by decide) (Rows.cells hob) rfl
   exact hSa.rt _ ⟨out, hRC, hO.1 (by omega), by omega⟩
end Go.Proofs.Ytnmkffkalnkbbaa.K
