/-
  Where slots stand behind a collection: of the program, and of the document.
  No condition but the premises that each theorem names.
-/
import Derived.Test.YtnmkffkalnkbbaaGc1
import Derived.Test.YtnmkffkalnkbbaaGsl
import Derived.Test.YtnmkffkalnkbbaaPhd
namespace Go.Proofs.Ytnmkffkalnkbbaa.K
open Go Go.RowKit
set_option linter.unusedVariables false
set_option linter.unusedSimpArgs false

open Pl
def EMk : ER Mk := fun G cs m => ∃ v, cs = [.int .i64 m.cells, .int .i64 m.trail, v] ∧ RSl 1 EInt G v m.roots ∧ (-9223372036854775808 ≤ m.cells ∧ m.cells ≤ 9223372036854775807) ∧ -9223372036854775808 ≤ m.trail ∧ m.trail ≤ 9223372036854775807
theorem EMk.mono : EMono EMk := fun _ _ _ _ hl ⟨v, h1, h2, h3⟩ => ⟨v, h1, h2.mono EInt.mono hl, h3⟩
theorem RSl.mkAt {G : GH} {oa : Option Addr} {n c : Nat} {l : List Mk} (h : RSl 3 EMk G (.slice oa n c) l) {i : Nat} (hi : i < l.length) :
    oa.isSome = true ∧ ∃ om dm, RSl 1 EInt G (.slice om l[i].roots.length dm) l[i].roots ∧ ((-9223372036854775808 ≤ l[i].cells ∧ l[i].cells ≤ 9223372036854775807) ∧ -9223372036854775808 ≤ l[i].trail ∧ l[i].trail ≤ 9223372036854775807) ∧
      ∀ (k : Nat) (u : Value), [Value.int .i64 l[i].cells, .int .i64 l[i].trail, .slice om l[i].roots.length dm][k]? = some u → gcell G ((elA oa (i * 3)).add k) = some u := by
  obtain ⟨h1, cs, _, ⟨v, rfl, hv, h3⟩, h5⟩ := h.el hi
  obtain ⟨om, dm, rfl, _, _⟩ := hv.elim
  exact ⟨h1, om, dm, hv, h3, h5⟩
theorem valI_at {to : List Int} {k : Nat} (h : k < to.length) : valI to (k : Int) = to[k] := by simp [valI, h]
theorem bnd_moved {l : List Bool} (h : l.length ≤ 1000000) : ∀ x ∈ movedI l, -9223372036854775808 ≤ x ∧ x ≤ 9223372036854775807 := fun x hx => by
  have := movedI_range x hx
  omega

set_option maxRecDepth 100000 in
set_option maxHeartbeats 400000 in

theorem R09_some_c (G : GH) (w0 : World) (hG : Holds G w0) (v : Value) (l : List Int) (h1 : RSl 1 EInt G v l) (hn : l.length ≤ 100000000) :
   Calls Try.prog 42 #[v] w0 (Rt noG w0 (fun G v => RSl 1 EInt G v (someI l))) := by
 obtain ⟨oa, c, rfl, hlc, hcm⟩ := h1.elim
 have hbd := h1.bnd
 refine enter Try.func42 rfl (N := 25) rfl (Nat.le_of_ble_eq_true rfl) ?_
 have hS := SS.init hG
 refine cw_seq (cw_region (ol_pure rfl (op_assign rfl) (ol_nil (pq_then (cw_seq (cw_region ?_))))))
 refine ol_step rfl (op_buildSlice (el := 3) (is := []) (xs := []) (sz := 1) (cs := []) hS rfl rfl (fun w => by kernel_rfl) rfl (by decide)) ?_
 clear hS
 rintro _ w ⟨o3, rfl, hS⟩
 refine ol_pure rfl (op_assign rfl) (ol_nil (pq_then (cw_seq (cw_seq (cw_region (ol_pure rfl (op_assign rfl) (ol_nil ?_)))))))
 refine pq_then (cw_block ?_)
 refine cw_loop (fun e w n => ∃ (k : Nat) (o3 : Option Addr) (l3 c3 : Nat), e = [(0, .slice oa l.length c), (3, .slice o3 l3 c3), (4, .int .i64 (k : Nat))] ∧ k ≤ l.length ∧ n = l.length - k ∧ l3 = (someI (l.take k)).length ∧ SS G w0 G [.row o3 l3 c3 3 1 ((someI (l.take k)).map (Value.int .i64))] w) _ _ (by exact ⟨0, o3, 0, _, rfl, Nat.zero_le _, rfl, rfl, hS⟩) ((Sub.cons rfl (Sub.cons rfl (Sub.cons rfl Sub.nil)))) ?_
 clear hS
 rintro e w n ⟨k, o3, l3, c3, rfl, hk, rfl, hl3, hS⟩
 have hl3k : l3 ≤ k := by have := someI_len (l.take k); simp only [List.length_take] at this; omega
 refine cw_seq (cw_seq (cw_region (ol_pure rfl (op_move rfl) (ol_pure rfl (op_move rfl) (ol_pure rfl (op_len sl_26 rfl rfl) (ol_pure rfl (op_lss rfl rfl) (ol_nil ?_)))))))
 refine pq_then ?_
 refine cw_cond rfl (fun h9 => ?_) (fun h9 => ?_)
 ·
  try simp only [dqT, dqF, dq1, dq2, dq3, dq4, dq5] at h9
  have hlt : k < l.length := by omega
  obtain ⟨hoa, hc, hb⟩ := h1.int hlt
  have hsl := someI_len (l.take k)
  simp only [List.length_take] at hsl
  have hsu := someI_succ hlt
  refine cw_skip (pq_then (cw_seq (cw_block (cw_seq (cw_region (ol_pure rfl (op_move rfl) (ol_pure rfl (op_move rfl) ?_)))))))
  refine ol_pure rfl (op_indexN sl_26 rfl rfl (by omega) hoa) (ol_load rfl (op_load1 one_3 rfl (fun w hw => hw.gcell hc)) hS (ol_pure rfl (op_geq rfl rfl) (ol_nil (pq_then ?_))))
  refine cw_cond rfl (fun h16 => ?_) (fun h16 => ?_)
  ·
   try simp only [dqT, dqF, dq1, dq2, dq3, dq4, dq5] at h16
   refine cw_region (ol_pure rfl (op_move rfl) (ol_pure rfl (op_move rfl) (ol_pure rfl (op_move rfl) (ol_pure rfl (op_indexN sl_26 rfl rfl (by omega) hoa) (ol_load rfl (op_load1 one_3 rfl (fun w hw => hw.gcell hc)) hS ?_)))))
   refine ol_step rfl (op_buildSlice (el := 3) (is := [0]) (xs := [.tmp 21]) (sz := 1) (cs := [.int .i64 l[k]]) hS rfl rfl (fun w => by kernel_rfl) rfl (by decide)) ?_
   clear hS
   rintro _ w ⟨s22, rfl, hS⟩
   refine ol_step rfl (op_append (j := 1) hS sl_26 el_3 rfl rfl rfl rfl rfl rfl (by decide) (hS.news (j := 0) rfl) (by simp [Value.oneCell']) (by omega) (by unfold maxLen; omega)) ?_
   clear hS
   rintro _ w ⟨o3n, c_o3n, rfl, hS⟩; (try simp only [List.nil_append, List.cons_append, List.set] at hS); replace hS := SS.drop [] hS; (try simp only [List.nil_append, List.cons_append] at hS)
   refine ol_pure rfl (op_assign rfl) (ol_nil (pq_in_normal (pq_then (cw_region (ol_pure rfl (op_move rfl) (ol_pure rfl (op_add rfl rfl (by omega) (by omega)) (ol_pure rfl (op_assign rfl) ?_)))))))
   refine ol_nil ?_
   refine pq_loop _ _ (by exact ⟨k + 1, o3n, l3 + 1, c_o3n, rfl, by omega, rfl, by rw [hsu, if_pos h16]; simp [hl3], by rw [hsu, if_pos h16]; simpa using hS⟩) ((Sub.cons rfl (Sub.cons rfl (Sub.cons rfl Sub.nil)))) (by omega)
  ·
   try simp only [dqT, dqF, dq1, dq2, dq3, dq4, dq5] at h16
   refine cw_skip (pq_in_normal (pq_then (cw_region (ol_pure rfl (op_move rfl) (ol_pure rfl (op_add rfl rfl (by omega) (by omega)) (ol_pure rfl (op_assign rfl) (ol_nil ?_)))))))
   refine pq_loop _ _ (by exact ⟨k + 1, o3, l3, c3, rfl, by omega, rfl, by rw [hsu, if_neg (by omega)]; simpa using hl3, by rw [hsu, if_neg (by omega)]; simpa using hS⟩) ((Sub.cons rfl (Sub.cons rfl (Sub.cons rfl Sub.nil)))) (by omega)
 ·
  try simp only [dqT, dqF, dq1, dq2, dq3, dq4, dq5] at h9
  refine cw_exit (pq_exit (pq_exit (pq_in_exit (pq_then (cw_seq (cw_region (ol_pure rfl (op_move rfl) ?_)))))))
  refine ol_pure rfl (op_assign rfl) (ol_nil (pq_then (cw_ret (ret1 rfl rfl ?_))))
  rw [List.take_of_length_le (by omega : l.length ≤ k)] at hS hl3
  exact hS.rt_row [] (by decide) (Rows.ints (fun x hx => hbd x (List.mem_filter.1 hx).1)) EInt.mono hl3
set_option maxRecDepth 100000 in
set_option maxHeartbeats 400000 in

theorem R09_To_c (G : GH) (w0 : World) (hG : Holds G w0) (u v : Value) (to l : List Int) (h1 : RSl 1 EInt G u to) (h2 : RSl 1 EInt G v l) (hn : l.length ≤ 100000000) :
   Calls Try.prog 43 #[u, v] w0 (Rt noG w0 (fun G v => RSl 1 EInt G v (toI to l))) := by
 obtain ⟨oT, cT, rfl, hlT, hmT⟩ := h1.elim
 obtain ⟨oa, c, rfl, hlc, hcm⟩ := h2.elim
 have hle := h1.le
 have hbd : ∀ x ∈ toI to l, -9223372036854775808 ≤ x ∧ x ≤ 9223372036854775807 := fun x hx => by
   obtain ⟨y, _, rfl⟩ := List.mem_map.1 hx
   split
   · rename_i hy
     exact h1.bnd _ (valI_mem hy.1 hy.2)
   · omega
 refine enter Try.func43 rfl (N := 41) rfl (Nat.le_of_ble_eq_true rfl) ?_
 have hS := SS.init hG
 refine cw_seq (cw_region (ol_pure rfl (op_assign rfl) (ol_nil (pq_then (cw_seq (cw_region ?_))))))
 refine ol_step rfl (op_buildSlice (el := 3) (is := []) (xs := []) (sz := 1) (cs := []) hS rfl rfl (fun w => by kernel_rfl) rfl (by decide)) ?_
 clear hS
 rintro _ w ⟨o5, rfl, hS⟩
 refine ol_pure rfl (op_assign rfl) (ol_nil (pq_then (cw_seq (cw_seq (cw_region (ol_pure rfl (op_assign rfl) (ol_nil ?_)))))))
 refine pq_then (cw_block ?_)
 refine cw_loop (fun e w n => ∃ (k : Nat) (o5 : Option Addr) (l5 c5 : Nat), e = [(0, .slice oT to.length cT), (1, .slice oa l.length c), (5, .slice o5 l5 c5), (6, .int .i64 (k : Nat))] ∧ k ≤ l.length ∧ n = l.length - k ∧ l5 = (toI to (l.take k)).length ∧ SS G w0 G [.row o5 l5 c5 3 1 ((toI to (l.take k)).map (Value.int .i64))] w) _ _ (by exact ⟨0, o5, 0, _, rfl, Nat.zero_le _, rfl, rfl, hS⟩) ((Sub.cons rfl (Sub.cons rfl (Sub.cons rfl (Sub.cons rfl Sub.nil))))) ?_
 clear hS
 rintro e w n ⟨k, o5, l5, c5, rfl, hk, rfl, hl5, hS⟩
 have hl5k : l5 = k := by rw [hl5, toI_len]; simp; omega
 refine cw_seq (cw_seq (cw_region (ol_pure rfl (op_move rfl) (ol_pure rfl (op_move rfl) (ol_pure rfl (op_len sl_26 rfl rfl) (ol_pure rfl (op_lss rfl rfl) (ol_nil ?_)))))))
 refine pq_then ?_
 refine cw_cond rfl (fun h12 => ?_) (fun h12 => ?_)
 ·
  try simp only [dqT, dqF, dq1, dq2, dq3, dq4, dq5] at h12
  have hlt : k < l.length := by omega
  obtain ⟨hoa, hc, hb⟩ := h2.int hlt
  have hsu := toI_succ to hlt
  refine cw_skip (pq_then (cw_seq (cw_block (cw_seq (cw_region (ol_pure rfl (op_assign rfl) (ol_nil ?_)))))))
  refine pq_then ?_
  refine cw_cut (fun e w => ∃ x7 : Int, e = [(0, .slice oT to.length cT), (1, .slice oa l.length c), (5, .slice o5 l5 c5), (6, .int .i64 (k : Nat)), (7, .int .i64 x7)] ∧ x7 = (if 0 ≤ l[k] ∧ l[k] < to.length then valI to l[k] else -1) ∧ SS G w0 G [.row o5 l5 c5 3 1 ((toI to (l.take k)).map (Value.int .i64))] w) ?_ ?_
  ·
   refine cw_seq (cw_region (ol_pure rfl (op_move rfl) (ol_pure rfl (op_move rfl) (ol_pure rfl (op_indexN sl_26 rfl rfl (by omega) hoa) (ol_load rfl (op_load1 one_3 rfl (fun w hw => hw.gcell hc)) hS (ol_pure rfl (op_geq rfl rfl) (ol_pure rfl (op_move rfl) ?_)))))))
   refine ol_split (fun h20 => ?_) (fun h20 => ?_)
   ·
    try simp only [dqT, dqF, dq1, dq2, dq3, dq4, dq5] at h20
    refine ol_guard_pure rfl rfl rfl (op_move rfl) (ol_guard_pure rfl rfl rfl (op_move rfl) (ol_guard_pure rfl rfl rfl (op_indexN sl_26 rfl rfl (by omega) hoa) (ol_guard_load rfl rfl rfl (op_load1 one_3 rfl (fun w hw => hw.gcell hc)) hS (ol_guard_pure rfl rfl rfl (op_move rfl) (ol_guard_pure rfl rfl rfl (op_len sl_26 rfl rfl) (ol_guard_pure rfl rfl rfl (op_lss rfl rfl) (ol_pure rfl (op_pick_t rfl rfl) ?_)))))))
    refine ol_nil (pq_then ?_)
    refine cw_cond rfl (fun h28 => ?_) (fun h28 => ?_)
    ·
     try simp only [dqT, dqF, dq1, dq2, dq3, dq4, dq5] at h28
     obtain ⟨q, hq⟩ := Int.eq_ofNat_of_zero_le h20
     have hql : q < to.length := by omega
     obtain ⟨hoT, hcT, hbT⟩ := h1.int hql
     refine cw_region (ol_pure rfl (op_move rfl) (ol_pure rfl (op_move rfl) (ol_pure rfl (op_move rfl) (ol_pure rfl (op_indexN sl_26 rfl rfl (by omega) hoa) (ol_load rfl (op_load1 one_3 rfl (fun w hw => hw.gcell hc)) hS (ol_pure rfl (op_indexAddr sl_26 rfl rfl (by omega) (by omega) hoT) (ol_load rfl (op_load1 (v := .int .i64 to[q]) one_3 rfl (fun w hw => hw.gcell (by rw [hq]; exact hcT))) hS ?_)))))))
     refine ol_pure rfl (op_assign rfl) (ol_nil ?_)
     refine pq_cut _ (by exact (by first | exact ⟨to[q], rfl, by rw [if_pos (by omega), hq, valI_at hql], hS⟩ | exact ⟨-1, rfl, by rw [if_neg (by omega)], hS⟩)) ((Sub.cons rfl (Sub.cons rfl (Sub.cons rfl (Sub.cons rfl (Sub.cons rfl Sub.nil))))))
    ·
     try simp only [dqT, dqF, dq1, dq2, dq3, dq4, dq5] at h28
     refine cw_skip ?_
     refine pq_cut _ (by exact (by first | exact ⟨to[q], rfl, by rw [if_pos (by omega), hq, valI_at hql], hS⟩ | exact ⟨-1, rfl, by rw [if_neg (by omega)], hS⟩)) ((Sub.cons rfl (Sub.cons rfl (Sub.cons rfl (Sub.cons rfl (Sub.cons rfl Sub.nil))))))
   ·
    try simp only [dqT, dqF, dq1, dq2, dq3, dq4, dq5] at h20
    refine ol_guard_no rfl rfl rfl rfl (ol_guard_no rfl rfl rfl rfl (ol_guard_no rfl rfl rfl rfl (ol_guard_no rfl rfl rfl rfl (ol_guard_no rfl rfl rfl rfl (ol_guard_no rfl rfl rfl rfl (ol_guard_no rfl rfl rfl rfl (ol_pure rfl (op_pick_f rfl rfl) ?_)))))))
    refine ol_nil (pq_then (cw_cond_f rfl (cw_skip ?_)))
    refine pq_cut _ (by exact (by first | exact ⟨to[q], rfl, by rw [if_pos (by omega), hq, valI_at hql], hS⟩ | exact ⟨-1, rfl, by rw [if_neg (by omega)], hS⟩)) ((Sub.cons rfl (Sub.cons rfl (Sub.cons rfl (Sub.cons rfl (Sub.cons rfl Sub.nil))))))
  clear hS
  rintro e w ⟨x7, rfl, hx7, hS⟩
  refine cw_region (ol_pure rfl (op_move rfl) (ol_pure rfl (op_move rfl) ?_))
  refine ol_step rfl (op_buildSlice (el := 3) (is := [0]) (xs := [.tmp 37]) (sz := 1) (cs := [.int .i64 x7]) hS rfl rfl (fun w => by kernel_rfl) rfl (by decide)) ?_
  clear hS
  rintro _ w ⟨s38, rfl, hS⟩
  refine ol_step rfl (op_append (j := 1) hS sl_26 el_3 rfl rfl rfl rfl rfl rfl (by decide) (hS.news (j := 0) rfl) (by simp [Value.oneCell']) (by omega) (by unfold maxLen; omega)) ?_
  clear hS
  rintro _ w ⟨o5n, c_o5n, rfl, hS⟩; (try simp only [List.nil_append, List.cons_append, List.set] at hS); replace hS := SS.drop [] hS; (try simp only [List.nil_append, List.cons_append] at hS)
  refine ol_pure rfl (op_assign rfl) (ol_nil (pq_in_normal (pq_then (cw_region (ol_pure rfl (op_move rfl) (ol_pure rfl (op_add rfl rfl (by omega) (by omega)) (ol_pure rfl (op_assign rfl) ?_)))))))
  refine ol_nil ?_
  refine pq_loop _ _ (by exact ⟨k + 1, o5n, l5 + 1, c_o5n, rfl, by omega, rfl, by rw [hsu]; simp [hl5], by rw [hsu, ← hx7]; simpa using hS⟩) ((Sub.cons rfl (Sub.cons rfl (Sub.cons rfl (Sub.cons rfl Sub.nil))))) (by omega)
 ·
  try simp only [dqT, dqF, dq1, dq2, dq3, dq4, dq5] at h12
  refine cw_exit (pq_exit (pq_exit (pq_in_exit (pq_then (cw_seq (cw_region (ol_pure rfl (op_move rfl) ?_)))))))
  refine ol_pure rfl (op_assign rfl) (ol_nil (pq_then (cw_ret (ret1 rfl rfl ?_))))
  rw [List.take_of_length_le (by omega : l.length ≤ k)] at hS hl5
  exact hS.rt_row [] (by decide) (Rows.ints hbd) EInt.mono hl5
set_option maxRecDepth 100000 in
set_option maxHeartbeats 400000 in

theorem R09_all_c (G : GH) (w0 : World) (hG : Holds G w0) (u : Value) (roots : List Int) (h3 : RSl 1 EInt G u roots) (u3 : Value) (ms : List Mk) (h4 : RSl 3 EMk G u3 ms) (hrl : roots.length ≤ 1000) (hml : ms.length ≤ 100) (hmr : ∀ m ∈ ms, m.roots.length ≤ 1000) :
   Calls Try.prog 45 #[u, u3] w0 (Rt noG w0 (fun G v => RSl 1 EInt G v (allI roots ms))) := by
 obtain ⟨oa, ca, rfl, hla, hma⟩ := h3.elim
 obtain ⟨om, cm, rfl, hlm, hmm⟩ := h4.elim
 have hbd : ∀ x ∈ allI roots ms, -9223372036854775808 ≤ x ∧ x ≤ 9223372036854775807 := fun x hx => by
   rcases allI_mem.1 hx with hx | ⟨m, hm, hx⟩
   · exact h3.bnd x hx
   · obtain ⟨i, hi, rfl⟩ := List.getElem_of_mem hm
     obtain ⟨_, o, d, hr, _⟩ := h4.mkAt hi
     exact hr.bnd x hx
 refine enter Try.func45 rfl (N := 24) rfl (Nat.le_of_ble_eq_true rfl) ?_
 have hS := SS.init hG
 refine cw_seq (cw_region (ol_pure rfl (op_assign rfl) (ol_nil (pq_then (cw_seq (cw_region ?_))))))
 refine ol_step rfl (op_buildSlice (el := 3) (is := []) (xs := []) (sz := 1) (cs := []) hS rfl rfl (fun w => by kernel_rfl) rfl (by decide)) ?_
 clear hS
 rintro _ w ⟨o5, rfl, hS⟩
 refine ol_pure rfl (op_move rfl) ?_
 refine ol_step rfl (op_append (j := 0) (m := roots.length) (news := roots.map (Value.int .i64)) hS sl_26 el_3 rfl rfl rfl rfl rfl (by simp) (by decide) (h3.newsI hS.hold) (ones_i roots) (by omega) (by unfold maxLen; omega)) ?_
 clear hS
 rintro _ w ⟨o5b, c_o5b, rfl, hS⟩; (try simp only [List.nil_append, List.cons_append, List.set] at hS)
 refine ol_pure rfl (op_assign rfl) (ol_nil (pq_then (cw_seq (cw_seq (cw_region (ol_pure rfl (op_assign rfl) (ol_nil ?_)))))))
 refine pq_then (cw_block ?_)
 refine cw_loop (fun e w n => ∃ (k : Nat) (o5 : Option Addr) (l5 c5 : Nat), e = [(1, .slice om ms.length cm), (5, .slice o5 l5 c5), (6, .int .i64 (k : Nat))] ∧ k ≤ ms.length ∧ n = ms.length - k ∧ l5 = (allI roots (ms.take k)).length ∧ SS G w0 G [.row o5 l5 c5 3 1 ((allI roots (ms.take k)).map (Value.int .i64))] w) _ _ (by exact ⟨0, o5b, 0 + roots.length, _, rfl, Nat.zero_le _, rfl, by simp [allI], by simpa [allI] using hS⟩) ((Sub.cons rfl (Sub.cons rfl (Sub.cons rfl Sub.nil)))) ?_
 clear hS
 rintro e w n ⟨k, o5, l5, c5, rfl, hk, rfl, hl5, hS⟩
 refine cw_seq (cw_seq (cw_region (ol_pure rfl (op_move rfl) (ol_pure rfl (op_move rfl) (ol_pure rfl (op_len sl_29 rfl rfl) (ol_pure rfl (op_lss rfl rfl) (ol_nil ?_)))))))
 refine pq_then ?_
 refine cw_cond rfl (fun h13 => ?_) (fun h13 => ?_)
 ·
  try simp only [dqT, dqF, dq1, dq2, dq3, dq4, dq5] at h13
  have hlt : k < ms.length := by omega
  obtain ⟨hom, o9, d9, hr9, hb9, hc9⟩ := h4.mkAt hlt
  have hsu := allI_succ roots ms hlt
  have hal := allI_len (roots := roots) hmr k
  have hm9 := hmr _ (List.getElem_mem hlt)
  have hkm : ms.length * 1000 ≤ 100000 := by omega
  refine cw_skip (pq_then (cw_seq (cw_block (cw_region (ol_pure rfl (op_move rfl) (ol_pure rfl (op_move rfl) (ol_pure rfl (op_move rfl) ?_)))))))
  refine ol_pure rfl (op_indexN sl_29 rfl rfl (by omega) hom) (ol_pure rfl (op_fieldAddr fld_46_2 rfl) (ol_load rfl (op_load1 one_26 rfl (fun w hw => hw.gcell (hc9 2 _ rfl))) hS ?_))
  refine ol_step rfl (op_append (j := 0) (m := ms[k].roots.length) (news := ms[k].roots.map (Value.int .i64)) hS sl_26 el_3 rfl rfl rfl rfl rfl (by simp) (by decide) (hr9.newsI hS.hold) (ones_i _) (by omega) (by unfold maxLen; omega)) ?_
  clear hS
  rintro _ w ⟨o5n, c_o5n, rfl, hS⟩; (try simp only [List.nil_append, List.cons_append, List.set] at hS)
  refine ol_pure rfl (op_assign rfl) (ol_nil (pq_in_normal (pq_then (cw_region (ol_pure rfl (op_move rfl) (ol_pure rfl (op_add rfl rfl (by omega) (by omega)) (ol_pure rfl (op_assign rfl) ?_)))))))
  refine ol_nil ?_
  refine pq_loop _ _ (by exact ⟨k + 1, o5n, l5 + ms[k].roots.length, c_o5n, rfl, by omega, rfl, by rw [hsu, List.length_append, hl5], by rw [hsu, List.map_append]; exact hS⟩) ((Sub.cons rfl (Sub.cons rfl (Sub.cons rfl Sub.nil)))) (by omega)
 ·
  try simp only [dqT, dqF, dq1, dq2, dq3, dq4, dq5] at h13
  refine cw_exit (pq_exit (pq_exit (pq_in_exit (pq_then (cw_seq (cw_region (ol_pure rfl (op_move rfl) ?_)))))))
  refine ol_pure rfl (op_assign rfl) (ol_nil (pq_then (cw_ret (ret1 rfl rfl ?_))))
  rw [List.take_of_length_le (by omega : ms.length ≤ k)] at hS hl5
  exact hS.rt_row [] (by decide) (Rows.ints hbd) EInt.mono hl5
set_option maxRecDepth 100000 in
set_option maxHeartbeats 1000000 in

theorem R09_Live_c (G : GH) (w0 : World) (hG : Holds G w0) (hv : Value) (cs : List Cell) (tr : List Int) (room : Int) (hh : EHeap G hv cs tr room) (u : Value) (roots : List Int) (h3 : RSl 1 EInt G u roots) (hs : ShOk cs) (hn : cs.length ≤ 1000000) (hr : roots.length ≤ 1000000) :
   Calls Try.prog 15 #[hv, u] w0 (Rt noG w0 (fun G v => RSl 1 EBool G v (liveB cs roots))) := by
 have hh0 := hh
 obtain ⟨oc, cc, ot, ct, rfl, h1, h2⟩ := hh
 have hle := h1.le
 have hle2 := h2.le
 obtain ⟨oa, ca, rfl, hla, hma⟩ := h3.elim
 have hL0 := live_nil cs hs
 refine enter Try.func15 rfl (N := 61) rfl (Nat.le_of_ble_eq_true rfl) ?_
 have hS := SS.init hG
 refine cw_seq (cw_region ?_)
 refine ol_step rfl (op_box hS rfl rfl) ?_
 clear hS
 rintro _ w ⟨b2, rfl, hS⟩
 refine ol_pure rfl (op_assign rfl) (ol_nil (pq_then (cw_seq ?_)))
 have hcur := Le.refl G
 refine cw_region (ol_pure rfl (op_fieldAddr fld_28_0 rfl) (ol_load rfl (op_load1 one_25 rfl (fun w hw => (hw.bcell (i := 0) rfl).trans rfl)) hS (ol_pure rfl (op_len sl_25 rfl rfl) ?_)))
 refine ol_step rfl (op_makeSlice (n := cs.length) hS sl_34 el_4 rfl rfl rfl (by omega) (by unfold maxLen; omega)) ?_
 clear hS
 rintro _ w ⟨out, rfl, hS⟩
 refine ol_pure rfl (op_assign rfl) (ol_nil (pq_then (cw_seq (cw_seq (cw_region (ol_pure rfl (op_assign rfl) (ol_nil ?_)))))))
 refine pq_then (cw_block ?_)
 refine cw_loop (fun e w n => ∃ (Gc : GH) (k : Nat), e = [(1, .slice oa roots.length ca), (2, .pointer (some ⟨b2, 0, none⟩)), (5, .slice out cs.length cs.length), (6, .int .i64 (k : Nat))] ∧ Le G Gc ∧ k ≤ roots.length ∧ n = roots.length - k ∧ SS G w0 Gc [.row out cs.length cs.length 4 1 ((liveB cs (roots.take k)).map Value.bool), .blk b2 28 [.slice oc cs.length cc, .slice ot tr.length ct, .int .i64 room]] w) _ _ (by exact ⟨G, 0, rfl, hcur, Nat.zero_le _, rfl, by rw [List.take_zero, hL0, List.map_replicate]; exact hS⟩) ((Sub.cons rfl (Sub.cons rfl (Sub.cons rfl (Sub.cons rfl Sub.nil))))) ?_
 clear hS
 rintro e w n ⟨Gc, k, rfl, hcur, hk, rfl, hS⟩
 refine cw_seq (cw_seq (cw_region (ol_pure rfl (op_move rfl) (ol_pure rfl (op_move rfl) (ol_pure rfl (op_len sl_26 rfl rfl) (ol_pure rfl (op_lss rfl rfl) (ol_nil ?_)))))))
 refine pq_then ?_
 refine cw_cond rfl (fun h16 => ?_) (fun h16 => ?_)
 ·
  try simp only [dqT, dqF, dq1, dq2, dq3, dq4, dq5] at h16
  have hlt : k < roots.length := by omega
  obtain ⟨hoa, hc, hb⟩ := (h3.mono EInt.mono hcur).int hlt
  have hll := liveB_len cs (roots.take k)
  have htk : roots.take (k + 1) = roots.take k ++ [roots[k]] := List.take_succ_eq_append_getElem hlt
  refine cw_skip (pq_then (cw_seq (cw_block (cw_seq (cw_seq ?_)))))
  refine al_start' hS (hS.take 2) (by kernel_rfl) rfl (fun w hS hT => ?_)
  refine al_load (i := 0) rfl (by kernel_rfl) (by kernel_rfl) (by kernel_rfl) rfl (fun _ _ _ h => h) (by exact op_loadN agg_28 rfl (by rfl) (fun w hw k u hk => (hw.bcell (i := 1) rfl).trans hk)) rfl hT (al_take (i := 1) rfl (by kernel_rfl) (by kernel_rfl) (by kernel_rfl) rfl (fun _ _ _ h => h) (op_move rfl) rfl (al_take (i := 2) rfl (by kernel_rfl) (by kernel_rfl) (by kernel_rfl) rfl (fun _ _ _ h => h) (op_move rfl) rfl (al_take (i := 3) rfl (by kernel_rfl) (by kernel_rfl) (by kernel_rfl) rfl (fun _ _ _ h => h) (op_indexN sl_26 rfl rfl (by omega) hoa) rfl (al_load (i := 4) rfl (by kernel_rfl) (by kernel_rfl) (by kernel_rfl) rfl (fun _ _ _ h => h) (by exact op_load1 one_3 rfl (fun w hw => hw.gcell hc)) rfl hT ?_))))
  refine al_step (i := 5) rfl (by kernel_rfl) rfl (op_call_sc hS cf_35 rfl (R08_Is_c _ _ hS.hold _ cs tr room (hh0.mono hcur) roots[k])) ?_
  clear hS
  rintro _ w ⟨rfl, hS⟩
  have hT := hT.back hS (by first | exact Le.refl _ | assumption) (fun x hx => by try simp only [bkA, bkB, bkC, bkD, bkE] at hx; (rcases hx with rfl | rfl) <;> simp)
  refine ⟨fun _ _ => hT, ?_⟩
  refine al_take (i := 6) rfl (by kernel_rfl) (by kernel_rfl) (by kernel_rfl) rfl (fun _ _ _ h => h) (op_not rfl) rfl (al_take (i := 7) rfl (by kernel_rfl) (by kernel_rfl) (by kernel_rfl) rfl (fun _ _ _ h => h) (op_move rfl) rfl ?_)
  refine al_split (fun h26 => ?_) (fun h26 => ?_)
  ·
   try simp only [dqT, dqF, dq1, dq2, dq3, dq4, dq5] at h26
   refine al_gskip (i := 8) rfl (by kernel_rfl) (by kernel_rfl) (by kernel_rfl) rfl rfl rfl rfl (fun _ _ _ h => h) (fun _ => hT) (al_gskip (i := 9) rfl (by kernel_rfl) (by kernel_rfl) (by kernel_rfl) rfl rfl rfl rfl (fun _ _ _ h => h) (fun _ => hT) (al_gskip (i := 10) rfl (by kernel_rfl) (by kernel_rfl) (by kernel_rfl) rfl rfl rfl rfl (fun _ _ _ h => h) (fun _ => hT) (al_gskip (i := 11) rfl (by kernel_rfl) (by kernel_rfl) (by kernel_rfl) rfl rfl rfl rfl (fun _ _ _ h => h) (fun _ => hT) (al_gskip (i := 12) rfl (by kernel_rfl) (by kernel_rfl) (by kernel_rfl) rfl rfl rfl rfl (fun _ _ _ h => h) (fun _ => hT) (al_gskip (i := 13) rfl (by kernel_rfl) (by kernel_rfl) (by kernel_rfl) rfl rfl rfl rfl (fun _ _ _ h => h) (fun _ => hT) (al_gskip (i := 14) rfl (by kernel_rfl) (by kernel_rfl) (by kernel_rfl) rfl rfl rfl rfl (fun _ _ _ h => h) (fun _ => hT) (al_take (i := 15) rfl (by kernel_rfl) (by kernel_rfl) (by kernel_rfl) rfl (fun _ _ _ h => h) (op_pick_t rfl rfl) rfl ?_)))))))
   refine al_done (by kernel_rfl) (pq_then (cw_cond_t rfl (cw_exit (pq_exit (pq_in_exit (pq_then (cw_region ?_)))))))
   refine ol_pure rfl (op_move rfl) (ol_pure rfl (op_add rfl rfl (by omega) (by omega)) (ol_pure rfl (op_assign rfl) (ol_nil ?_)))
   refine pq_loop _ _ (by exact ⟨Gc, k + 1, rfl, hcur, by omega, rfl, by rw [htk, live_skip hs (.inl (fun hc => by have := isP_iff.2 hc; rw [this] at h26; cases h26))]; exact hS⟩) ((Sub.cons rfl (Sub.cons rfl (Sub.cons rfl (Sub.cons rfl Sub.nil))))) (by omega)
  ·
   try simp only [dqT, dqF, dq1, dq2, dq3, dq4, dq5] at h26
   have hin := isP_iff.1 h26
   obtain ⟨q, hq⟩ := Int.eq_ofNat_of_zero_le hin.1
   have hql : q < cs.length := by omega
   have hqc : ((liveB cs (roots.take k)).map Value.bool)[roots[k].toNat * 1]? = some (.bool (atB (liveB cs (roots.take k)) (q : Int))) := by
     rw [hq]
     simp [atB_nat, hll, hql]
   have hoq := (hS.news (j := 0) rfl _ _ hqc).1
   refine al_gtake (i := 8) rfl (by kernel_rfl) (by kernel_rfl) (by kernel_rfl) rfl rfl rfl (fun _ _ _ h => h) (op_move rfl) rfl (al_gtake (i := 9) rfl (by kernel_rfl) (by kernel_rfl) (by kernel_rfl) rfl rfl rfl (fun _ _ _ h => h) (op_move rfl) rfl (al_gtake (i := 10) rfl (by kernel_rfl) (by kernel_rfl) (by kernel_rfl) rfl rfl rfl (fun _ _ _ h => h) (op_move rfl) rfl (al_gtake (i := 11) rfl (by kernel_rfl) (by kernel_rfl) (by kernel_rfl) rfl rfl rfl (fun _ _ _ h => h) (op_indexN sl_26 rfl rfl (by omega) hoa) rfl (al_gload (i := 12) rfl (by kernel_rfl) (by kernel_rfl) (by kernel_rfl) rfl rfl rfl (fun _ _ _ h => h) (by exact op_load1 one_3 rfl (fun w hw => hw.gcell hc)) rfl hT (al_gtake (i := 13) rfl (by kernel_rfl) (by kernel_rfl) (by kernel_rfl) rfl rfl rfl (fun _ _ _ h => h) (op_indexAddr sl_34 rfl rfl (by omega) (by omega) hoq) rfl (al_gload (i := 14) rfl (by kernel_rfl) (by kernel_rfl) (by kernel_rfl) rfl rfl rfl (fun _ _ _ h => h) (by exact op_load1 one_4 rfl (fun w hw => hw.rcell (i := 0) rfl hqc)) rfl hT (al_take (i := 15) rfl (by kernel_rfl) (by kernel_rfl) (by kernel_rfl) rfl (fun _ _ _ h => h) (op_pick_f rfl rfl) rfl ?_)))))))
   refine al_done (by kernel_rfl) (pq_then ?_)
   refine cw_cond rfl (fun h34 => ?_) (fun h34 => ?_)
   ·
    try simp only [dqT, dqF, dq1, dq2, dq3, dq4, dq5] at h34
    refine cw_exit (pq_exit (pq_in_exit (pq_then (cw_region (ol_pure rfl (op_move rfl) (ol_pure rfl (op_add rfl rfl (by omega) (by omega)) (ol_pure rfl (op_assign rfl) ?_)))))))
    refine ol_nil ?_
    refine pq_loop _ _ (by exact ⟨Gc, k + 1, rfl, hcur, by omega, rfl, by rw [htk, live_skip hs (.inr (by rw [hq]; exact h34))]; exact hS⟩) ((Sub.cons rfl (Sub.cons rfl (Sub.cons rfl (Sub.cons rfl Sub.nil))))) (by omega)
   ·
    try simp only [dqT, dqF, dq1, dq2, dq3, dq4, dq5] at h34
    refine cw_skip (pq_then (cw_seq ?_))
    refine al_start' hS (hS.take 2) (by kernel_rfl) rfl (fun w hS hT => ?_)
    refine al_load (i := 0) rfl (by kernel_rfl) (by kernel_rfl) (by kernel_rfl) rfl (fun _ _ _ h => h) (by exact op_loadN agg_28 rfl (by rfl) (fun w hw k u hk => (hw.bcell (i := 1) rfl).trans hk)) rfl hT (al_take (i := 1) rfl (by kernel_rfl) (by kernel_rfl) (by kernel_rfl) rfl (fun _ _ _ h => h) (op_move rfl) rfl (al_take (i := 2) rfl (by kernel_rfl) (by kernel_rfl) (by kernel_rfl) rfl (fun _ _ _ h => h) (op_move rfl) rfl (al_take (i := 3) rfl (by kernel_rfl) (by kernel_rfl) (by kernel_rfl) rfl (fun _ _ _ h => h) (op_indexN sl_26 rfl rfl (by omega) hoa) rfl (al_load (i := 4) rfl (by kernel_rfl) (by kernel_rfl) (by kernel_rfl) rfl (fun _ _ _ h => h) (by exact op_load1 (v := .int .i64 (q : Nat)) one_3 rfl (fun w hw => hw.gcell (by rw [← hq]; exact hc))) rfl hT ?_))))
    refine al_step (i := 5) rfl (by kernel_rfl) rfl (op_call_fr hS cf_27 rfl (R08_Reach_c _ _ hS.hold _ cs tr room (hh0.mono hcur) q hql hs hn)) ?_
    clear hS
    rintro v40 w ⟨F40, G40, hR40, hF40, hf40, hl40, hS⟩
    obtain ⟨o7, c7, rfl, hl7, hm7⟩ := hR40.elimN (liveB_len cs [(q : Int)])
    replace hR40 := hR40.mono EBool.mono hf40
    replace hcur := hcur.trans hl40
    refine ⟨no_need (by kernel_rfl), ?_⟩
    refine al_take (i := 6) rfl (by kernel_rfl) (by kernel_rfl) (by kernel_rfl) rfl (fun _ _ _ h => h) (op_assign rfl) rfl (al_done (by kernel_rfl) (pq_then (cw_seq (cw_region (ol_pure rfl (op_assign rfl) (ol_nil (pq_then ?_)))))))
    refine cw_block ?_
    refine cw_loop (fun e w n => ∃ (j : Nat), e = [(1, .slice oa roots.length ca), (2, .pointer (some ⟨b2, 0, none⟩)), (5, .slice out cs.length cs.length), (6, .int .i64 (k : Nat)), (7, .slice o7 cs.length c7), (8, .int .i64 (j : Nat))] ∧ j ≤ cs.length ∧ n = cs.length - j ∧ SS G w0 G40 [.row out cs.length cs.length 4 1 (((orB (liveB cs (roots.take k)) (liveB cs [(q : Int)])).take j ++ (liveB cs (roots.take k)).drop j).map Value.bool), .blk b2 28 [.slice oc cs.length cc, .slice ot tr.length ct, .int .i64 room]] w) _ _ (by exact ⟨0, rfl, Nat.zero_le _, rfl, by simpa using hS⟩) ((Sub.cons rfl (Sub.cons rfl (Sub.cons rfl (Sub.cons rfl (Sub.cons rfl (Sub.cons rfl Sub.nil))))))) ?_
    clear hS
    rintro e w n ⟨j, rfl, hj, rfl, hS⟩
    refine cw_seq (cw_seq (cw_region (ol_pure rfl (op_move rfl) (ol_pure rfl (op_move rfl) (ol_pure rfl (op_len sl_34 rfl rfl) (ol_pure rfl (op_lss rfl rfl) (ol_nil ?_)))))))
    refine pq_then ?_
    refine cw_cond rfl (fun h44 => ?_) (fun h44 => ?_)
    ·
     try simp only [dqT, dqF, dq1, dq2, dq3, dq4, dq5] at h44
     have hjl : j < cs.length := by omega
     obtain ⟨ho7, hc7⟩ := hR40.bool (i := j) (by rw [liveB_len]; exact hjl)
     have hac := or_at (o := liveB cs (roots.take k)) (s := liveB cs [(q : Int)]) (k := j) (by omega)
     have hac2 : (((orB (liveB cs (roots.take k)) (liveB cs [(q : Int)])).take j ++ (liveB cs (roots.take k)).drop j).map Value.bool)[j * 1]? = some (.bool (atB (liveB cs (roots.take k)) (j : Int))) := by rw [Nat.mul_one, List.getElem?_map, hac]; rfl
     have hoj := (hS.news (j := 0) rfl _ _ hac2).1
     have hst := or_set (o := liveB cs (roots.take k)) (s := liveB cs [(q : Int)]) (k := j) (by omega)
     have hat : (liveB cs [(q : Int)])[j]'(by rw [liveB_len]; exact hjl) = atB (liveB cs [(q : Int)]) (j : Int) := by rw [atB_nat]; simp [liveB_len, hjl]
     rw [hat] at hc7
     refine cw_skip (pq_then (cw_seq (cw_block (cw_region (ol_pure rfl (op_move rfl) (ol_pure rfl (op_move rfl) (ol_pure rfl (op_move rfl) ?_)))))))
     refine ol_pure rfl (op_move rfl) (ol_pure rfl (op_indexN sl_34 rfl rfl (by omega) hoj) (ol_load rfl (op_load1 one_4 rfl (fun w hw => hw.rcell (i := 0) rfl hac2)) hS (ol_pure rfl (op_move rfl) ?_)))
     refine ol_split (fun h53 => ?_) (fun h53 => ?_)
     ·
      try simp only [dqT, dqF, dq1, dq2, dq3, dq4, dq5] at h53
      refine ol_guard_no rfl rfl rfl rfl (ol_guard_no rfl rfl rfl rfl (ol_guard_no rfl rfl rfl rfl (ol_guard_no rfl rfl rfl rfl (ol_pure rfl (op_pick_t rfl rfl) (ol_pure rfl (op_indexN sl_34 rfl rfl (by omega) hoj) ?_)))))
      refine ol_step0  (op_storeR (j := 0) (k := j * 1) hS sz_4 rfl rfl rfl rfl (by rw [Nat.mul_one, List.length_map, or_len (by omega)]; omega)) ?_
      clear hS
      rintro _ w hS; (try simp only [List.nil_append, List.cons_append, List.set] at hS)
      rw [Nat.mul_one, ← List.map_set] at hS
      refine ol_nil (pq_in_normal (pq_then (cw_region (ol_pure rfl (op_move rfl) (ol_pure rfl (op_add rfl rfl (by omega) (by omega)) (ol_pure rfl (op_assign rfl) (ol_nil ?_)))))))
      refine pq_loop _ _ (by exact ⟨j + 1, rfl, by omega, rfl, by rw [← hst, h53, Bool.true_or]; exact hS⟩) ((Sub.cons rfl (Sub.cons rfl (Sub.cons rfl (Sub.cons rfl (Sub.cons rfl (Sub.cons rfl Sub.nil))))))) (by omega)
     ·
      try simp only [dqT, dqF, dq1, dq2, dq3, dq4, dq5] at h53
      refine ol_guard_pure rfl rfl rfl (op_move rfl) (ol_guard_pure rfl rfl rfl (op_move rfl) (ol_guard_pure rfl rfl rfl (op_indexN sl_34 rfl rfl (by omega) ho7) (ol_guard_load rfl rfl rfl (op_load1 one_4 rfl (fun w hw => hw.gcell hc7)) hS (ol_pure rfl (op_pick_f rfl rfl) (ol_pure rfl (op_indexN sl_34 rfl rfl (by omega) hoj) ?_)))))
      refine ol_step0  (op_storeR (j := 0) (k := j * 1) hS sz_4 rfl rfl rfl rfl (by rw [Nat.mul_one, List.length_map, or_len (by omega)]; omega)) ?_
      clear hS
      rintro _ w hS; (try simp only [List.nil_append, List.cons_append, List.set] at hS)
      rw [Nat.mul_one, ← List.map_set] at hS
      refine ol_nil (pq_in_normal (pq_then (cw_region (ol_pure rfl (op_move rfl) (ol_pure rfl (op_add rfl rfl (by omega) (by omega)) (ol_pure rfl (op_assign rfl) (ol_nil ?_)))))))
      refine pq_loop _ _ (by exact ⟨j + 1, rfl, by omega, rfl, by rw [← hst, h53, Bool.false_or]; exact hS⟩) ((Sub.cons rfl (Sub.cons rfl (Sub.cons rfl (Sub.cons rfl (Sub.cons rfl (Sub.cons rfl Sub.nil))))))) (by omega)
    ·
     try simp only [dqT, dqF, dq1, dq2, dq3, dq4, dq5] at h44
     rw [show j = cs.length from by omega, List.take_of_length_le (by rw [orB_len]; omega), List.drop_eq_nil_of_le (by omega), List.append_nil] at hS
     refine cw_exit (pq_exit (pq_exit (pq_in_exit (pq_in_normal (pq_then (cw_region (ol_pure rfl (op_move rfl) ?_)))))))
     refine ol_pure rfl (op_add rfl rfl (by omega) (by omega)) (ol_pure rfl (op_assign rfl) (ol_nil ?_))
     refine pq_loop _ _ (by exact ⟨_, k + 1, rfl, hcur, by omega, rfl, by rw [htk, hq, ← live_or hs]; exact hS⟩) ((Sub.cons rfl (Sub.cons rfl (Sub.cons rfl (Sub.cons rfl Sub.nil))))) (by omega)
 ·
  try simp only [dqT, dqF, dq1, dq2, dq3, dq4, dq5] at h16
  refine cw_exit (pq_exit (pq_exit (pq_in_exit (pq_then (cw_seq (cw_region (ol_pure rfl (op_move rfl) ?_)))))))
  refine ol_pure rfl (op_assign rfl) (ol_nil (pq_then (cw_ret (ret1 rfl rfl ?_))))
  rw [List.take_of_length_le (by omega : roots.length ≤ k)] at hS
  exact hS.rt_row [] (by decide) (Rows.boolsG noG _) EBool.mono (liveB_len _ _).symm
set_option maxRecDepth 100000 in
set_option maxHeartbeats 1000000 in

theorem R09_Moved_c (G : GH) (w0 : World) (hG : Holds G w0) (hv : Value) (cs : List Cell) (tr : List Int) (room : Int) (hh : EHeap G hv cs tr room) (hs : ShOk cs) (hn : cs.length ≤ 1000000) (u : Value) (roots : List Int) (h3 : RSl 1 EInt G u roots) (u3 : Value) (ms : List Mk) (h4 : RSl 3 EMk G u3 ms) (hrl : roots.length ≤ 1000) (hml : ms.length ≤ 100) (hmr : ∀ m ∈ ms, m.roots.length ≤ 1000) :
   Calls Try.prog 22 #[hv, u, u3] w0 (Rt noG w0 (fun G v => RSl 1 EInt G v (movedI (liveB cs (allI roots ms))))) := by
 have hh0 := hh
 obtain ⟨oc, cc, ot, ct, rfl, h1, h2⟩ := hh
 have hle := h1.le
 have hle2 := h2.le
 obtain ⟨oa, ca, rfl, hla, hma⟩ := h3.elim
 obtain ⟨om, cm, rfl, hlm, hmm⟩ := h4.elim
 have hal : (allI roots ms).length ≤ 101000 := by
   have := allI_len (roots := roots) hmr ms.length
   rw [List.take_length] at this
   omega
 refine enter Try.func22 rfl (N := 37) rfl (Nat.le_of_ble_eq_true rfl) ?_
 have hS := SS.init hG
 refine cw_seq (cw_region ?_)
 refine ol_step rfl (op_box hS rfl rfl) ?_
 clear hS
 rintro _ w ⟨b2, rfl, hS⟩
 refine ol_pure rfl (op_assign rfl) (ol_nil (pq_then (cw_seq ?_)))
 have hcur := Le.refl G
 refine al_start' hS (hS.take 1) (by kernel_rfl) rfl (fun w hS hT => ?_)
 refine al_load (i := 0) rfl (by kernel_rfl) (by kernel_rfl) (by kernel_rfl) rfl (fun _ _ _ h => h) (by exact op_loadN agg_28 rfl (by rfl) (fun w hw k u hk => (hw.bcell (i := 0) rfl).trans hk)) rfl hT (al_take (i := 1) rfl (by kernel_rfl) (by kernel_rfl) (by kernel_rfl) rfl (fun _ _ _ h => h) (op_move rfl) rfl (al_take (i := 2) rfl (by kernel_rfl) (by kernel_rfl) (by kernel_rfl) rfl (fun _ _ _ h => h) (op_move rfl) rfl ?_))
 refine al_meet (fuel2 := 2) (ds2 := [6, 5, 4, 3, 2, 1, 0]) (fun e w => ∃ (Gx : GH) (oL : Option Addr) (cL : Nat) (o8 : Option Addr), e = [(7, .slice oL cs.length cL), (16, .slice o8 0 0)] ∧ RSl 1 EBool Gx (.slice oL cs.length cL) (liveB cs (allI roots ms)) ∧ Le G Gx ∧ SS G w0 Gx [.row o8 0 0 3 1 (([] : List Int).map (Value.int .i64)), .blk b2 28 [.slice oc cs.length cc, .slice ot tr.length ct, .int .i64 room]] w) (fun K1 => ?_) ?_
 ·
  refine al_two (i := 3) (j := 5) (by kernel_rfl) (fun a ha => ?_) (fun a ha => ?_)
  ·
   refine wpOp_of_opk (i := 3) rfl ha (op_call_fr hS cf_45 rfl (R09_all_c _ _ hS.hold _ roots (h3.mono EInt.mono hcur) _ ms (h4.mono EMk.mono hcur) hrl hml hmr)) ?_
   clear hS
   rintro v14 w ⟨F14, G14, hR14, hF14, hf14, hl14, hS⟩
   obtain ⟨oA, cA, rfl, _, _⟩ := hR14.elim
   replace hR14 := hR14.mono EInt.mono hf14
   replace hcur := hcur.trans hl14
   have hT := hT.back hS (by first | exact Le.refl _ | assumption) (fun x hx => by try simp only [bkA, bkB, bkC, bkD, bkE] at hx; (rcases hx with rfl) <;> simp)
   refine ⟨fun _ _ => hT, ?_⟩
   refine al_at ?_ (ha.put (blt_lt rfl) _)
   refine al_two (i := 4) (j := 5) (by kernel_rfl) (fun a ha => ?_) (fun a ha => ?_)
   ·
    refine wpOp_of_opk (i := 4) rfl ha (op_call_fr hS cf_15 rfl (R09_Live_c _ _ hS.hold _ cs tr room (hh0.mono hcur) _ (allI roots ms) hR14 hs hn (by omega))) ?_
    clear hS
    rintro v15 w ⟨F15, G15, hR15, hF15, hf15, hl15, hS⟩
    obtain ⟨oL, cL, rfl, _, _⟩ := hR15.elimN (liveB_len cs _)
    replace hR15 := hR15.mono EBool.mono hf15
    replace hcur := hcur.trans hl15
    refine ⟨no_need (by kernel_rfl), ?_⟩
    refine al_at ?_ (ha.put (blt_lt rfl) _)
    refine al_take (i := 6) rfl (by kernel_rfl) (by kernel_rfl) (by kernel_rfl) rfl (fun _ _ _ h => h) (op_assign rfl) rfl ?_
    refine al_step (i := 5) rfl (by kernel_rfl) rfl (op_buildSlice (el := 3) (is := []) (xs := []) (sz := 1) (cs := []) hS rfl rfl (fun w => by kernel_rfl) rfl (by decide)) ?_
    clear hS
    rintro _ w ⟨o8, rfl, hS⟩
    have hT := hT.back hS (by first | exact Le.refl _ | assumption) (fun x hx => by try simp only [bkA, bkB, bkC, bkD, bkE] at hx; (rcases hx with rfl) <;> simp)
    refine ⟨fun _ _ => hT, ?_⟩
    exact K1 _ _ _ _ (by kernel_rfl) (by exact ⟨_, oL, cL, o8, rfl, hR15, hcur, hS⟩) ((Sub.cons rfl (Sub.cons rfl Sub.nil)))
   ·
    refine wpOp_of_opk (i := 5) rfl ha (op_buildSlice (el := 3) (is := []) (xs := []) (sz := 1) (cs := []) hS rfl rfl (fun w => by kernel_rfl) rfl (by decide)) ?_
    clear hS
    rintro _ w ⟨o8, rfl, hS⟩
    have hT := hT.back hS (by first | exact Le.refl _ | assumption) (fun x hx => by try simp only [bkA, bkB, bkC, bkD, bkE] at hx; (rcases hx with rfl) <;> simp)
    refine ⟨fun _ _ => hT, ?_⟩
    refine al_at ?_ (ha.put (blt_lt rfl) _)
    refine al_step (i := 4) rfl (by kernel_rfl) rfl (op_call_fr hS cf_15 rfl (R09_Live_c _ _ hS.hold _ cs tr room (hh0.mono hcur) _ (allI roots ms) hR14 hs hn (by omega))) ?_
    clear hS
    rintro v15 w ⟨F15, G15, hR15, hF15, hf15, hl15, hS⟩
    obtain ⟨oL, cL, rfl, _, _⟩ := hR15.elimN (liveB_len cs _)
    replace hR15 := hR15.mono EBool.mono hf15
    replace hcur := hcur.trans hl15
    refine ⟨no_need (by kernel_rfl), ?_⟩
    refine al_take (i := 6) rfl (by kernel_rfl) (by kernel_rfl) (by kernel_rfl) rfl (fun _ _ _ h => h) (op_assign rfl) rfl ?_
    exact K1 _ _ _ _ (by kernel_rfl) (by exact ⟨_, oL, cL, o8, rfl, hR15, hcur, hS⟩) ((Sub.cons rfl (Sub.cons rfl Sub.nil)))
  ·
   refine wpOp_of_opk (i := 5) rfl ha (op_buildSlice (el := 3) (is := []) (xs := []) (sz := 1) (cs := []) hS rfl rfl (fun w => by kernel_rfl) rfl (by decide)) ?_
   clear hS
   rintro _ w ⟨o8, rfl, hS⟩
   have hT := hT.back hS (by first | exact Le.refl _ | assumption) (fun x hx => by try simp only [bkA, bkB, bkC, bkD, bkE] at hx; (rcases hx with rfl) <;> simp)
   refine ⟨fun _ _ => hT, ?_⟩
   refine al_at ?_ (ha.put (blt_lt rfl) _)
   refine al_step (i := 3) rfl (by kernel_rfl) rfl (op_call_fr hS cf_45 rfl (R09_all_c _ _ hS.hold _ roots (h3.mono EInt.mono hcur) _ ms (h4.mono EMk.mono hcur) hrl hml hmr)) ?_
   clear hS
   rintro v14 w ⟨F14, G14, hR14, hF14, hf14, hl14, hS⟩
   obtain ⟨oA, cA, rfl, _, _⟩ := hR14.elim
   replace hR14 := hR14.mono EInt.mono hf14
   replace hcur := hcur.trans hl14
   have hT := hT.back hS (by first | exact Le.refl _ | assumption) (fun x hx => by try simp only [bkA, bkB, bkC, bkD, bkE] at hx; (rcases hx with rfl) <;> simp)
   refine ⟨fun _ _ => hT, ?_⟩
   refine al_step (i := 4) rfl (by kernel_rfl) rfl (op_call_fr hS cf_15 rfl (R09_Live_c _ _ hS.hold _ cs tr room (hh0.mono hcur) _ (allI roots ms) hR14 hs hn (by omega))) ?_
   clear hS
   rintro v15 w ⟨F15, G15, hR15, hF15, hf15, hl15, hS⟩
   obtain ⟨oL, cL, rfl, _, _⟩ := hR15.elimN (liveB_len cs _)
   replace hR15 := hR15.mono EBool.mono hf15
   replace hcur := hcur.trans hl15
   refine ⟨no_need (by kernel_rfl), ?_⟩
   refine al_take (i := 6) rfl (by kernel_rfl) (by kernel_rfl) (by kernel_rfl) rfl (fun _ _ _ h => h) (op_assign rfl) rfl ?_
   exact K1 _ _ _ _ (by kernel_rfl) (by exact ⟨_, oL, cL, o8, rfl, hR15, hcur, hS⟩) ((Sub.cons rfl (Sub.cons rfl Sub.nil)))
 ·
  have hTo := hT
  clear hS hT
  rintro e w ⟨Gx, oL, cL, o8, rfl, hRL, hnew, hS⟩
  have hT := hTo.back hS (by first | exact Le.refl _ | assumption) (fun x hx => by try simp only [bkA, bkB, bkC, bkD, bkE] at hx; (rcases hx with rfl) <;> simp)
  clear hTo
  refine al_take (i := 7) rfl (by kernel_rfl) (by kernel_rfl) (by kernel_rfl) rfl (fun _ _ _ h => h) (op_assign rfl) rfl (al_take (i := 8) rfl (by kernel_rfl) (by kernel_rfl) (by kernel_rfl) rfl (fun _ _ _ h => h) (op_assign rfl) rfl (al_done (by kernel_rfl) (pq_then (cw_seq (cw_seq ?_)))))
  have hL := liveB_len cs (allI roots ms)
  generalize hLe : liveB cs (allI roots ms) = L at hRL hL
  refine cw_region (ol_pure rfl (op_assign rfl) (ol_nil (pq_then (cw_block ?_))))
  refine cw_loop (fun e w n => ∃ (k : Nat) (o8 : Option Addr) (c8 : Nat), e = [(7, .slice oL cs.length cL), (8, .slice o8 k c8), (9, .int .i64 (cntB (L.take k) : Nat)), (10, .int .i64 (k : Nat))] ∧ k ≤ cs.length ∧ n = cs.length - k ∧ SS G w0 Gx [.row o8 k c8 3 1 ((movedI (L.take k)).map (Value.int .i64)), .blk b2 28 [.slice oc cs.length cc, .slice ot tr.length ct, .int .i64 room]] w) _ _ (by exact ⟨0, o8, 0, rfl, Nat.zero_le _, rfl, by simpa [movedI, movI] using hS⟩) ((Sub.cons rfl (Sub.cons rfl (Sub.cons rfl (Sub.cons rfl Sub.nil))))) ?_
  clear hS
  rintro e w n ⟨k, o8, c8, rfl, hk, rfl, hS⟩
  refine cw_seq (cw_seq (cw_region (ol_pure rfl (op_move rfl) (ol_pure rfl (op_move rfl) (ol_pure rfl (op_len sl_34 rfl rfl) (ol_pure rfl (op_lss rfl rfl) (ol_nil ?_)))))))
  refine pq_then ?_
  refine cw_cond rfl (fun h20 => ?_) (fun h20 => ?_)
  ·
   try simp only [dqT, dqF, dq1, dq2, dq3, dq4, dq5] at h20
   have hkl : k < L.length := by omega
   obtain ⟨hoL, hcL⟩ := hRL.bool hkl
   have hms := movedI_succ hkl
   have hcs := cntB_succ hkl
   have hcl := cntB_le (L.take k)
   simp only [List.length_take] at hcl
   refine cw_skip (pq_then (cw_seq (cw_block (cw_seq (cw_region (ol_pure rfl (op_move rfl) (ol_pure rfl (op_move rfl) ?_)))))))
   refine ol_pure rfl (op_indexN sl_34 rfl rfl (by omega) hoL) (ol_load rfl (op_load1 one_4 rfl (fun w hw => hw.gcell hcL)) hS (ol_nil (pq_then ?_)))
   refine cw_cond rfl (fun h26 => ?_) (fun h26 => ?_)
   ·
    try simp only [dqT, dqF, dq1, dq2, dq3, dq4, dq5] at h26
    refine cw_seq (cw_region (ol_pure rfl (op_move rfl) (ol_pure rfl (op_move rfl) ?_)))
    refine ol_step rfl (op_buildSlice (el := 3) (is := [0]) (xs := [.tmp 28]) (sz := 1) (cs := [.int .i64 (cntB (L.take k) : Nat)]) hS rfl rfl (fun w => by kernel_rfl) rfl (by decide)) ?_
    clear hS
    rintro _ w ⟨s29, rfl, hS⟩
    refine ol_step rfl (op_append (j := 1) hS sl_26 el_3 rfl rfl rfl rfl rfl rfl (by decide) (hS.news (j := 0) rfl) (by simp [Value.oneCell']) (by omega) (by unfold maxLen; omega)) ?_
    clear hS
    rintro _ w ⟨o8n, c_o8n, rfl, hS⟩; (try simp only [List.nil_append, List.cons_append, List.set] at hS); replace hS := SS.drop [] hS; (try simp only [List.nil_append, List.cons_append] at hS)
    refine ol_pure rfl (op_assign rfl) (ol_nil (pq_then (cw_region (ol_pure rfl (op_move rfl) (ol_pure rfl (op_add rfl rfl (by omega) (by omega)) (ol_pure rfl (op_assign rfl) (ol_nil ?_)))))))
    refine pq_in_normal (pq_then (cw_region (ol_pure rfl (op_move rfl) (ol_pure rfl (op_add rfl rfl (by omega) (by omega)) (ol_pure rfl (op_assign rfl) (ol_nil ?_))))))
    refine pq_loop _ _ (by exact ⟨k + 1, o8n, c_o8n, by rw [hcs, if_pos h26], by omega, rfl, by rw [hms, if_pos h26]; simpa using hS⟩) ((Sub.cons rfl (Sub.cons rfl (Sub.cons rfl (Sub.cons rfl Sub.nil))))) (by omega)
   ·
    try simp only [dqT, dqF, dq1, dq2, dq3, dq4, dq5] at h26
    refine cw_region (ol_pure rfl (op_move rfl) ?_)
    refine ol_step rfl (op_buildSlice (el := 3) (is := [0]) (xs := [.const (.int .i64 (-1))]) (sz := 1) (cs := [.int .i64 (-1)]) hS rfl rfl (fun w => by kernel_rfl) rfl (by decide)) ?_
    clear hS
    rintro _ w ⟨s34, rfl, hS⟩
    refine ol_step rfl (op_append (j := 1) hS sl_26 el_3 rfl rfl rfl rfl rfl rfl (by decide) (hS.news (j := 0) rfl) (by simp [Value.oneCell']) (by omega) (by unfold maxLen; omega)) ?_
    clear hS
    rintro _ w ⟨o8n, c_o8n, rfl, hS⟩; (try simp only [List.nil_append, List.cons_append, List.set] at hS); replace hS := SS.drop [] hS; (try simp only [List.nil_append, List.cons_append] at hS)
    refine ol_pure rfl (op_assign rfl) (ol_nil (pq_in_normal (pq_then (cw_region (ol_pure rfl (op_move rfl) (ol_pure rfl (op_add rfl rfl (by omega) (by omega)) (ol_pure rfl (op_assign rfl) ?_)))))))
    refine ol_nil ?_
    refine pq_loop _ _ (by exact ⟨k + 1, o8n, c_o8n, by rw [hcs, if_neg (by simp [h26])], by omega, rfl, by rw [hms, if_neg (by simp [h26])]; simpa using hS⟩) ((Sub.cons rfl (Sub.cons rfl (Sub.cons rfl (Sub.cons rfl Sub.nil))))) (by omega)
  ·
   try simp only [dqT, dqF, dq1, dq2, dq3, dq4, dq5] at h20
   refine cw_exit (pq_exit (pq_exit (pq_in_exit (pq_then (cw_seq (cw_region (ol_pure rfl (op_move rfl) ?_)))))))
   refine ol_pure rfl (op_assign rfl) (ol_nil (pq_then (cw_ret (ret1 rfl rfl ?_))))
   obtain rfl : k = cs.length := by omega
   rw [List.take_of_length_le (by omega)] at hS
   exact hS.rt_row [] (by decide) (Rows.ints (bnd_moved (by omega))) EInt.mono (by rw [movedI_len, hL])
set_option maxRecDepth 100000 in
set_option maxHeartbeats 1000000 in

theorem gc_Moved_c (G : GH) (w0 : World) (hG : Holds G w0) (hv : Value) (cs : List Cell) (tr : List Int) (room : Int) (hh : EHeap G hv cs tr room) (hs : ShOk cs) (hn : cs.length ≤ 1000000) (u : Value) (roots : List Int) (h3 : RSl 1 EInt G u roots) (u3 : Value) (ms : List Mk) (h4 : RSl 3 EMk G u3 ms) (hrl : roots.length ≤ 1000) (hml : ms.length ≤ 100) (hmr : ∀ m ∈ ms, m.roots.length ≤ 1000) :
   Calls Try.prog 21 #[hv, u, u3] w0 (Rt noG w0 (fun G v => RSl 1 EInt G v (movedI (liveB cs (allI roots ms))))) := by
 have hh0 := hh
 obtain ⟨oc, cc, ot, ct, rfl, h1, h2⟩ := hh
 have hle := h1.le
 have hle2 := h2.le
 obtain ⟨oa, ca, rfl, hla, hma⟩ := h3.elim
 obtain ⟨om, cm, rfl, hlm, hmm⟩ := h4.elim
 have hal : (allI roots ms).length ≤ 101000 := by
   have := allI_len (roots := roots) hmr ms.length
   rw [List.take_length] at this
   omega
 have hbd : ∀ x ∈ allI roots ms, -9223372036854775808 ≤ x ∧ x ≤ 9223372036854775807 := fun x hx => by
   rcases allI_mem.1 hx with hx | ⟨m, hm, hx⟩
   · exact h3.bnd x hx
   · obtain ⟨i, hi, rfl⟩ := List.getElem_of_mem hm
     obtain ⟨_, o, d, hr, _⟩ := h4.mkAt hi
     exact hr.bnd x hx
 refine enter Try.func21 rfl (N := 48) rfl (Nat.le_of_ble_eq_true rfl) ?_
 have hS := SS.init hG
 refine cw_seq (cw_region ?_)
 refine ol_step rfl (op_box hS rfl rfl) ?_
 clear hS
 rintro _ w ⟨b2, rfl, hS⟩
 refine ol_pure rfl (op_assign rfl) (ol_nil (pq_then (cw_seq (cw_region (ol_pure rfl (op_move rfl) ?_)))))
 refine ol_step rfl (op_call cf_44 rfl (slices_Clone_c hS h3 (by omega))) ?_
 clear hS
 rintro _ w ⟨oA, cA, rfl, hS⟩
 refine ol_pure rfl (op_assign rfl) (ol_nil (pq_then (cw_seq (cw_seq (cw_region (ol_pure rfl (op_move rfl) (ol_pure rfl (op_len sl_29 rfl rfl) ?_)))))))
 refine ol_pure rfl (op_move rfl) (ol_nil (pq_then (cw_block ?_)))
 refine cw_loop (fun e w n => ∃ (k : Nat) (oA : Option Addr) (l7 cA : Nat), e = [(3, .pointer (some ⟨b2, 0, none⟩)), (7, .slice oA l7 cA), (16, .slice om ms.length cm), (17, .int .i64 (ms.length : Nat)), (18, .int .i64 (k : Nat))] ∧ k ≤ ms.length ∧ n = ms.length - k ∧ l7 = (allI roots (ms.take k)).length ∧ SS G w0 G [.row oA l7 cA 3 1 ((allI roots (ms.take k)).map (Value.int .i64)), .blk b2 28 [.slice oc cs.length cc, .slice ot tr.length ct, .int .i64 room]] w) _ _ (by exact ⟨0, oA, roots.length, cA, rfl, Nat.zero_le _, rfl, by simp [allI], by simpa [allI] using hS⟩) ((Sub.cons rfl (Sub.cons rfl (Sub.cons rfl (Sub.cons rfl (Sub.cons rfl Sub.nil)))))) ?_
 clear hS
 rintro e w n ⟨k, oA, l7, cA, rfl, hk, rfl, hl7, hS⟩
 refine cw_seq (cw_region (ol_pure rfl (op_lss rfl rfl) (ol_nil (pq_then (cw_seq ?_)))))
 refine cw_cond rfl (fun h19 => ?_) (fun h19 => ?_)
 ·
  try simp only [dqT, dqF, dq1, dq2, dq3, dq4, dq5] at h19
  have hlt : k < ms.length := by omega
  obtain ⟨hom, o9, d9, hr9, hb9, hc9⟩ := h4.mkAt hlt
  have hsu := allI_succ roots ms hlt
  have hal2 := allI_len (roots := roots) hmr k
  have hm9 := hmr _ (List.getElem_mem hlt)
  refine cw_skip (pq_then (cw_seq (cw_block (cw_seq (cw_region (ol_pure rfl (op_indexN sl_29 rfl rfl (by omega) hom) (ol_load rfl (op_loadN agg_46 rfl (by rfl) (fun w hw k u hk => hw.gcell (hc9 k u hk))) hS ?_)))))))
  refine ol_step rfl (op_alloc hS el_46 rfl) ?_
  clear hS
  rintro _ w ⟨b9, rfl, hS⟩
  refine ol_step0  (op_storeN (j := 0) hS sz_46 rfl rfl rfl rfl rfl (by simp [Value.oneCell'])) ?_
  clear hS
  rintro _ w hS; (try simp only [List.nil_append, List.cons_append, List.set] at hS)
  refine ol_nil (pq_then (cw_region (ol_pure rfl (op_move rfl) (ol_pure rfl (op_fieldAddr fld_46_2 rfl) (ol_load rfl (op_load1 one_26 rfl (fun w hw => (hw.bcell (i := 0) rfl).trans rfl)) hS ?_)))))
  refine ol_step rfl (op_append (j := 1) (m := ms[k].roots.length) (news := ms[k].roots.map (Value.int .i64)) hS sl_26 el_3 rfl rfl rfl rfl rfl (by simp) (by decide) (hr9.newsI hS.hold) (ones_i _) (by omega) (by unfold maxLen; omega)) ?_
  clear hS
  rintro _ w ⟨oq, c_oq, rfl, hS⟩; (try simp only [List.nil_append, List.cons_append, List.set] at hS)
  replace hS := SS.drop [] hS
  (try simp only [List.nil_append] at hS)
  refine ol_pure rfl (op_assign rfl) (ol_nil (pq_in_normal (pq_then (cw_region (ol_pure rfl (op_add rfl rfl (by omega) (by omega)) (ol_pure rfl (op_move rfl) (ol_nil ?_)))))))
  refine pq_loop _ _ (by exact ⟨k + 1, oq, l7 + ms[k].roots.length, c_oq, rfl, by omega, rfl, by rw [hsu, List.length_append, hl7], by rw [hsu, List.map_append]; exact hS⟩) ((Sub.cons rfl (Sub.cons rfl (Sub.cons rfl (Sub.cons rfl (Sub.cons rfl Sub.nil)))))) (by omega)
 ·
  try simp only [dqT, dqF, dq1, dq2, dq3, dq4, dq5] at h19
  have hkm : k = ms.length := by omega
  rw [hkm, List.take_length] at hS hl7
  replace hS := hS.nil 3 1
  refine cw_exit (pq_exit (pq_exit (pq_in_exit (pq_then (cw_seq ?_)))))
  
  refine cw_region (ol_pure rfl (op_assign rfl) (ol_nil (pq_then (cw_seq (cw_region (ol_pure rfl (op_assign rfl) (ol_nil ?_)))))))
  refine pq_then (cw_seq (cw_seq (cw_region (ol_load rfl (op_loadN agg_28 rfl (by rfl) (fun w hw k u hk => (hw.bcell (i := 2) rfl).trans hk)) hS (ol_pure rfl (op_move rfl) ?_)))))
  have hlend := SS.lend (zs := allI roots ms) [_] hS (by decide) EInt.mono ((Rows.ints hbd).mono EInt.mono (fun b o hb => by cases hb)) hl7
  refine ol_step rfl (op_call_fr hS cf_14 rfl (gc_Live_c (fullG _) _ (Holds.full _) _ cs tr room (hh0.mono hS.hold.le_full) _ (allI roots ms) hlend hs hn (by omega))) ?_
  clear hS
  rintro v29 w ⟨F29, G29, hR29, hF29, hf29, hl29, hS⟩
  obtain ⟨oL, cL, rfl, _, _⟩ := hR29.elimN (liveB_len cs _)
  replace hR29 := hR29.mono EBool.mono hf29
  have hL := liveB_len cs (allI roots ms)
  generalize hLe : liveB cs (allI roots ms) = L at hR29 hL
  have hRL := hR29
  refine ol_pure rfl (op_len sl_34 rfl rfl) (ol_pure rfl (op_move rfl) (ol_nil (pq_then (cw_block ?_))))
  refine cw_loop (fun e w n => ∃ (k : Nat) (o8 : Option Addr) (c8 : Nat), e = [(10, .slice o8 k c8), (11, .int .i64 (cntB (L.take k) : Nat)), (29, .slice oL cs.length cL), (30, .int .i64 (cs.length : Nat)), (31, .int .i64 (k : Nat))] ∧ k ≤ cs.length ∧ n = cs.length - k ∧ SS G w0 G29 [.row o8 k c8 3 1 ((movedI (L.take k)).map (Value.int .i64)), .row oA l7 cA 3 1 ((allI roots ms).map (Value.int .i64)), .blk b2 28 [.slice oc cs.length cc, .slice ot tr.length ct, .int .i64 room]] w) _ _ (by exact ⟨0, none, 0, rfl, Nat.zero_le _, rfl, by simpa [movedI, movI] using hS⟩) ((Sub.cons rfl (Sub.cons rfl (Sub.cons rfl (Sub.cons rfl (Sub.cons rfl Sub.nil)))))) ?_
  clear hS
  rintro e w n ⟨k, o8, c8, rfl, hk, rfl, hS⟩
  refine cw_seq (cw_region (ol_pure rfl (op_lss rfl rfl) (ol_nil (pq_then (cw_seq ?_)))))
  refine cw_cond rfl (fun h32 => ?_) (fun h32 => ?_)
  ·
   try simp only [dqT, dqF, dq1, dq2, dq3, dq4, dq5] at h32
   have hkl : k < L.length := by omega
   obtain ⟨hoL, hcL⟩ := hRL.bool hkl
   have hms := movedI_succ hkl
   have hcs := cntB_succ hkl
   have hcl := cntB_le (L.take k)
   simp only [List.length_take] at hcl
   refine cw_skip (pq_then (cw_seq (cw_block (cw_seq (cw_region (ol_pure rfl (op_indexN sl_34 rfl rfl (by omega) hoL) (ol_load rfl (op_load1 one_4 rfl (fun w hw => hw.gcell hcL)) hS ?_)))))))
   refine ol_pure rfl (op_assign rfl) (ol_nil (pq_then (cw_seq (cw_seq (cw_region (ol_pure rfl (op_move rfl) (ol_pure rfl (op_not rfl) ?_)))))))
   refine ol_nil (pq_then ?_)
   refine cw_cond rfl (fun h36 => ?_) (fun h36 => ?_)
   ·
    try simp only [dqT, dqF, dq1, dq2, dq3, dq4, dq5] at h36
    refine cw_seq (cw_region (ol_pure rfl (op_move rfl) ?_))
    refine ol_step rfl (op_buildSlice (el := 3) (is := [0]) (xs := [.const (.int .i64 (-1))]) (sz := 1) (cs := [.int .i64 (-1)]) hS rfl rfl (fun w => by kernel_rfl) rfl (by decide)) ?_
    clear hS
    rintro _ w ⟨s38, rfl, hS⟩
    refine ol_step rfl (op_append (j := 1) hS sl_26 el_3 rfl rfl rfl rfl rfl rfl (by decide) (hS.news (j := 0) rfl) (by simp [Value.oneCell']) (by omega) (by unfold maxLen; omega)) ?_
    clear hS
    rintro _ w ⟨oq, c_oq, rfl, hS⟩; (try simp only [List.nil_append, List.cons_append, List.set] at hS); replace hS := SS.drop [] hS; (try simp only [List.nil_append, List.cons_append] at hS)
    refine ol_pure rfl (op_assign rfl) (ol_nil (pq_then (cw_exit (pq_exit (pq_in_exit (pq_then (cw_region ?_)))))))
    refine ol_pure rfl (op_add rfl rfl (by omega) (by omega)) (ol_pure rfl (op_move rfl) (ol_nil ?_))
    refine pq_loop _ _ (by exact ⟨k + 1, oq, c_oq, by rw [hcs, if_neg (by simp [h36])], by omega, rfl, by rw [hms, if_neg (by simp [h36])]; simpa using hS⟩) ((Sub.cons rfl (Sub.cons rfl (Sub.cons rfl (Sub.cons rfl (Sub.cons rfl Sub.nil)))))) (by omega)
   ·
    try simp only [dqT, dqF, dq1, dq2, dq3, dq4, dq5] at h36
    refine cw_skip (pq_then (cw_seq (cw_region (ol_pure rfl (op_move rfl) (ol_pure rfl (op_move rfl) ?_)))))
    refine ol_step rfl (op_buildSlice (el := 3) (is := [0]) (xs := [.tmp 41]) (sz := 1) (cs := [.int .i64 (cntB (L.take k) : Nat)]) hS rfl rfl (fun w => by kernel_rfl) rfl (by decide)) ?_
    clear hS
    rintro _ w ⟨s42, rfl, hS⟩
    refine ol_step rfl (op_append (j := 1) hS sl_26 el_3 rfl rfl rfl rfl rfl rfl (by decide) (hS.news (j := 0) rfl) (by simp [Value.oneCell']) (by omega) (by unfold maxLen; omega)) ?_
    clear hS
    rintro _ w ⟨oq, c_oq, rfl, hS⟩; (try simp only [List.nil_append, List.cons_append, List.set] at hS); replace hS := SS.drop [] hS; (try simp only [List.nil_append, List.cons_append] at hS)
    refine ol_pure rfl (op_assign rfl) (ol_nil (pq_then (cw_region (ol_pure rfl (op_move rfl) (ol_pure rfl (op_add rfl rfl (by omega) (by omega)) (ol_pure rfl (op_assign rfl) (ol_nil ?_)))))))
    refine pq_in_normal (pq_then (cw_region (ol_pure rfl (op_add rfl rfl (by omega) (by omega)) (ol_pure rfl (op_move rfl) (ol_nil ?_)))))
    refine pq_loop _ _ (by exact ⟨k + 1, oq, c_oq, by rw [hcs, if_pos h36], by omega, rfl, by rw [hms, if_pos h36]; simpa using hS⟩) ((Sub.cons rfl (Sub.cons rfl (Sub.cons rfl (Sub.cons rfl (Sub.cons rfl Sub.nil)))))) (by omega)
  ·
   try simp only [dqT, dqF, dq1, dq2, dq3, dq4, dq5] at h32
   refine cw_exit (pq_exit (pq_exit (pq_in_exit (pq_then (cw_seq (cw_region (ol_pure rfl (op_move rfl) ?_)))))))
   refine ol_pure rfl (op_assign rfl) (ol_nil (pq_then (cw_ret (ret1 rfl rfl ?_))))
   obtain rfl : k = cs.length := by omega
   rw [List.take_of_length_le (by omega)] at hS
   exact hS.rt_row [] (by decide) (Rows.ints (bnd_moved (by omega))) EInt.mono (by rw [movedI_len, hL])
end Go.Proofs.Ytnmkffkalnkbbaa.K
