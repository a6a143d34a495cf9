/-
  The part of a proof that an atom needs: marks, reasons, the part.
  No condition but the premises that each theorem names.
-/
import Derived.Test.YtmkgechdfimfnaaJfor
namespace Go.Proofs.Ytmkgechdfimfnaa.K
open Go Go.RowKit
set_option linter.unusedVariables false
set_option linter.unusedSimpArgs false

open Pl

set_option maxRecDepth 100000 in
set_option maxHeartbeats 400000 in

theorem just_For_1_c {G0 G : GH} {w0 w : World} {M : List Ent} {on : Option Addr} {cn b9 b7 : Nat} {vb : Value} (l : List Step) (nd0 : List Bool) (N0 : Nat) (hN : nd0.length = N0) (by_ : List Int) (hby : RSl 1 EInt G vb by_) (v : Value) (ns : List Int) (h1 : RSl 1 EInt G v ns) (hin : ∀ a ∈ ns, (0 ≤ a ∧ a < by_.length) ∧ valI by_ a = byI l a ∧ 0 ≤ byI l a ∧ byI l a < N0) (hS : SS G0 w0 G (.row on N0 cn 4 1 (nd0.map Value.bool) :: .blk b9 49 [.slice on N0 cn] :: .blk b7 28 [vb] :: M) w) :
   Calls Try.prog 42 #[v, .pointer (some ⟨b9, 0, none⟩), .pointer (some ⟨b7, 0, none⟩)] w (fun en w' => en = .returned (.tuple #[]) ∧ SS G0 w0 G (.row on N0 cn 4 1 ((markI l nd0 ns).map Value.bool) :: .blk b9 49 [.slice on N0 cn] :: .blk b7 28 [vb] :: M) w') := by
 obtain ⟨oa, c, rfl, hlc, hcm⟩ := h1.elim
 have hle := h1.le
 obtain ⟨ob, cb, rfl, hlb, hmb⟩ := hby.elim
 refine enter Try.func42 rfl (N := 19) rfl (Nat.le_of_ble_eq_true rfl) ?_
 refine cw_seq ?_
 refine cw_region ?_
 refine ol_pure rfl (op_move rfl) ?_
 refine ol_pure rfl (op_len sl_28 rfl rfl) ?_
 refine ol_pure rfl (op_move rfl) ?_
 refine ol_nil ?_
 refine pq_then ?_
 refine cw_block ?_
 refine cw_loop (fun e w n => ∃ k : Nat, e = [(1, .pointer (some ⟨b9, 0, none⟩)), (2, .pointer (some ⟨b7, 0, none⟩)), (6, .slice oa ns.length c), (7, .int .i64 (ns.length : Nat)), (8, .int .i64 (k : Nat))] ∧ k ≤ ns.length ∧ n = ns.length - k ∧ SS G0 w0 G (.row on N0 cn 4 1 ((markI l nd0 (ns.take k)).map Value.bool) :: .blk b9 49 [.slice on N0 cn] :: .blk b7 28 [.slice ob by_.length cb] :: M) w) _ _ (by exact ⟨0, rfl, Nat.zero_le _, rfl, hS⟩) ((Sub.cons rfl (Sub.cons rfl (Sub.cons rfl (Sub.cons rfl (Sub.cons rfl Sub.nil)))))) ?_
 clear hS
 rintro e w n ⟨k, rfl, hk, rfl, hS⟩
 refine cw_seq ?_
 refine cw_region ?_
 refine ol_pure rfl (op_lss rfl rfl) ?_
 refine ol_nil ?_
 refine pq_then ?_
 refine cw_seq ?_
 refine cw_cond rfl (fun h9 => ?_) (fun h9 => ?_)
 ·
  skip
  try simp only [decide_eq_true_eq, decide_eq_false_iff_not, Bool.not_eq_true', Bool.not_eq_false', Bool.not_eq_eq_eq_not, Bool.not_true, Bool.not_false] at h9
  have hlt : k < ns.length := by omega
  obtain ⟨hoa, hca, hba⟩ := h1.int hlt
  obtain ⟨hin1, hin2, hin3, hin4⟩ := hin _ (List.getElem_mem hlt)
  obtain ⟨hoB, _, hcB, hbB⟩ := hby.val hin1.1 hin1.2
  obtain ⟨j, hj⟩ := Int.eq_ofNat_of_zero_le hin3
  have hcm2 : ((markI l nd0 (ns.take k)).map Value.bool)[j * 1]? = some (.bool ((markI l nd0 (ns.take k)).getD j false)) := by
    have : j < (markI l nd0 (ns.take k)).length := by rw [markI_len]; omega
    simp [this]
  have hoN := (hS.news (j := 0) rfl _ _ hcm2).1
  refine cw_skip ?_
  refine pq_then ?_
  refine cw_seq ?_
  refine cw_block ?_
  refine cw_seq ?_
  refine cw_region ?_
  refine ol_pure rfl (op_indexN sl_28 rfl rfl (by omega) (by assumption)) ?_
  refine ol_load rfl (op_load1 one_3 rfl (fun w hw => by first | exact hw.gcell (by assumption) | exact hw.gcell0 (by assumption))) hS ?_
  refine ol_pure rfl (op_assign rfl) ?_
  refine ol_nil ?_
  refine pq_then ?_
  refine al_start' hS (hS.take 3) (by kernel_rfl) rfl (fun w hS hT => ?_)
  refine al_load (i := 0) rfl (by kernel_rfl) (by kernel_rfl) (by kernel_rfl) rfl (fun _ _ _ h => h) (by exact op_load1 one_49 rfl (fun w hw => (hw.bcell0 (i := 1) rfl).trans rfl)) rfl hT ?_
  refine al_load (i := 1) rfl (by kernel_rfl) (by kernel_rfl) (by kernel_rfl) rfl (fun _ _ _ h => h) (by exact op_load1 one_28 rfl (fun w hw => (hw.bcell0 (i := 2) rfl).trans rfl)) rfl hT ?_
  refine al_take (i := 2) rfl (by kernel_rfl) (by kernel_rfl) (by kernel_rfl) rfl (fun _ _ _ h => h) (op_move rfl) rfl ?_
  refine al_take (i := 3) rfl (by kernel_rfl) (by kernel_rfl) (by kernel_rfl) rfl (fun _ _ _ h => h) (op_indexAddr sl_28 rfl rfl (by omega) (by omega) hoB) rfl ?_
  refine al_load (i := 4) rfl (by kernel_rfl) (by kernel_rfl) (by kernel_rfl) rfl (fun _ _ _ h => h) (by exact op_load1 one_3 rfl (fun w hw => hw.gcell hcB)) rfl hT ?_
  refine al_take (i := 5) rfl (by kernel_rfl) (by kernel_rfl) (by kernel_rfl) rfl (fun _ _ _ h => h) (op_val (op_indexAddr (n := N0) (i := valI by_ ns[k]) sl_49 rfl rfl (by omega) (by omega) hoN) (v' := .pointer (some (elA on (j * 1)))) (by rw [hin2, hj]; rfl)) rfl ?_
  refine al_step0 (i := 6) rfl (by kernel_rfl) (op_storeR (j := 0) (k := j * 1) hS sz_4 rfl rfl rfl rfl (by simp [markI_len]; omega)) ?_
  clear hS
  rintro _ w hS; (try simp only [List.nil_append, List.cons_append, List.set] at hS)
  refine ⟨no_need (by kernel_rfl), ?_⟩
  refine al_done (by kernel_rfl) ?_
  refine pq_in_normal ?_
  refine pq_then ?_
  refine cw_region ?_
  refine ol_pure rfl (op_add rfl rfl (by omega) (by omega)) ?_
  refine ol_pure rfl (op_move rfl) ?_
  refine ol_nil ?_
  refine pq_loop _ _ (by exact ⟨k + 1, rfl, by omega, rfl, by rw [markI_succ _ _ _ hlt, hj, List.map_set]; rw [Nat.mul_one] at hS; exact hS⟩) ((Sub.cons rfl (Sub.cons rfl (Sub.cons rfl (Sub.cons rfl (Sub.cons rfl Sub.nil)))))) (by omega)
 ·
  skip
  try simp only [decide_eq_true_eq, decide_eq_false_iff_not, Bool.not_eq_true', Bool.not_eq_false', Bool.not_eq_eq_eq_not, Bool.not_true, Bool.not_false] at h9
  refine cw_exit ?_
  refine pq_exit ?_
  refine pq_exit ?_
  refine pq_in_exit ?_
  refine end0 rfl ?_
  rw [List.take_of_length_le (show ns.length ≤ k by omega)] at hS
  exact ⟨rfl, hS⟩
theorem need_pre {G0 G : GH} {w0 w : World} {M : List Ent} (pre : List Ent) {on : Option Addr} {cn b9 b7 : Nat} {vb : Value} (l : List Step) (nd0 : List Bool) (N0 : Nat) (hN : nd0.length = N0) (by_ : List Int) (hby : RSl 1 EInt G vb by_) (v : Value) (ns : List Int) (h1 : RSl 1 EInt G v ns) (hin : ∀ a ∈ ns, (0 ≤ a ∧ a < by_.length) ∧ valI by_ a = byI l a ∧ 0 ≤ byI l a ∧ byI l a < N0)
    (hS : SS G0 w0 G (pre ++ (.row on N0 cn 4 1 (nd0.map Value.bool) :: .blk b9 49 [.slice on N0 cn] :: .blk b7 28 [vb] :: M)) w) :
    Calls Try.prog 42 #[v, .pointer (some ⟨b9, 0, none⟩), .pointer (some ⟨b7, 0, none⟩)] w (fun en w' => en = .returned (.tuple #[]) ∧ SS G0 w0 G (pre ++ (.row on N0 cn 4 1 ((markI l nd0 ns).map Value.bool) :: .blk b9 49 [.slice on N0 cn] :: .blk b7 28 [vb] :: M)) w') := by
  have h2 := hS.perm (List.perm_append_comm (l₁ := pre))
  have h3 := just_For_1_c (M := M ++ pre) l nd0 N0 hN by_ hby v ns h1 hin h2
  refine h3.mono fun en w' ⟨h4, h5⟩ => ⟨h4, ?_⟩
  exact h5.perm (by exact List.perm_append_comm (l₂ := pre) (l₁ := ((.row on N0 cn 4 1 ((markI l nd0 ns).map Value.bool) :: .blk b9 49 [.slice on N0 cn] :: .blk b7 28 [vb] :: M) : List Ent)))

set_option maxRecDepth 100000 in

theorem just_For_2_c (G : GH) (w0 : World) (hG : Holds G w0) (b : Nat) (u : Value) (U : List Int) (a : Int) (h1 : RSl 1 EInt G u U) (hb : gcell G ((⟨b, 0, none⟩ : Addr).add 1) = some u) :
   Calls Try.prog 43 #[.int .i64 a, .pointer (some ⟨b, 0, none⟩)] w0 (Sc w0 (.bool (decide (a ∈ U)))) := by
 refine enter Try.func43 rfl (N := 8) rfl (Nat.le_of_ble_eq_true rfl) ?_
 have hS := SS.init hG
 refine cw_seq ?_
 refine cw_region ?_
 refine ol_pure rfl (op_assign rfl) ?_
 refine ol_nil ?_
 refine pq_then ?_
 refine cw_seq ?_
 refine cw_region ?_
 refine ol_pure rfl (op_fieldAddr fld_37_1 rfl) ?_
 refine ol_load rfl (op_load1 one_28 rfl (fun w hw => hw.gcell hb)) hS ?_
 refine ol_pure rfl (op_move rfl) ?_
 refine ol_step rfl (op_call_sc hS cf_44 rfl (slices_Contains_c G _ hS.hold u U h1 a)) ?_
 clear hS
 rintro _ w ⟨rfl, hS⟩
 refine ol_pure rfl (op_assign rfl) ?_
 refine ol_nil ?_
 refine pq_then ?_
 refine cw_ret ?_
 refine ret1 rfl rfl ?_
 exact hS.sc_b rfl
set_option maxRecDepth 100000 in
set_option maxHeartbeats 400000 in

theorem just_For_3_1_c (G : GH) (w0 : World) (hG : Holds G w0) (b8 b7 b11 : Nat) (vt vb : Value) (tl by_ : List Int) (k : Nat) (ht : RSl 1 EInt G vt tl) (hby : RSl 1 EInt G vb by_) (hb8 : gcell G ⟨b8, 0, none⟩ = some vt) (hb7 : gcell G ⟨b7, 0, none⟩ = some vb) (hb11 : gcell G ⟨b11, 0, none⟩ = some (.int .i64 (k : Nat))) (b6 : Nat) (v : Int) (hb6 : gcell G ⟨b6, 0, none⟩ = some (.int .i64 v)) (a : Int) (hat : 0 ≤ a ∧ a < tl.length) (hab : a < by_.length) :
   Calls Try.prog 46 #[.int .i64 a, .pointer (some ⟨b8, 0, none⟩), .pointer (some ⟨b6, 0, none⟩), .pointer (some ⟨b7, 0, none⟩), .pointer (some ⟨b11, 0, none⟩)] w0 (Sc w0 (.bool (decide (valI tl a = v) && decide (0 ≤ valI by_ a) && decide (valI by_ a < k)))) := by
 obtain ⟨ot, ct, rfl, hlt, hmt⟩ := ht.elim
 obtain ⟨ob, cb, rfl, hlb, hmb⟩ := hby.elim
 obtain ⟨hoT, _, hcT, hbT⟩ := ht.val hat.1 hat.2
 obtain ⟨hoB, _, hcB, hbB⟩ := hby.val hat.1 hab
 refine enter Try.func46 rfl (N := 28) rfl (Nat.le_of_ble_eq_true rfl) ?_
 have hS := SS.init hG
 refine cw_seq ?_
 refine cw_region ?_
 refine ol_pure rfl (op_assign rfl) ?_
 refine ol_nil ?_
 refine pq_then ?_
 refine cw_seq ?_
 refine al_start' hS (hS.take 0) (by kernel_rfl) rfl (fun w hS hT => ?_)
 refine al_load (i := 0) rfl (by kernel_rfl) (by kernel_rfl) (by kernel_rfl) rfl (fun _ _ _ h => h) (by exact op_load1 one_28 rfl (fun w hw => hw.gcell hb8)) rfl hT ?_
 refine al_take (i := 1) rfl (by kernel_rfl) (by kernel_rfl) (by kernel_rfl) rfl (fun _ _ _ h => h) (op_move rfl) rfl ?_
 refine al_take (i := 2) rfl (by kernel_rfl) (by kernel_rfl) (by kernel_rfl) rfl (fun _ _ _ h => h) (op_indexAddr sl_28 rfl rfl (by omega) (by omega) hoT) rfl ?_
 refine al_load (i := 3) rfl (by kernel_rfl) (by kernel_rfl) (by kernel_rfl) rfl (fun _ _ _ h => h) (by exact op_load1 one_3 rfl (fun w hw => hw.gcell hcT)) rfl hT ?_
 refine al_load (i := 4) rfl (by kernel_rfl) (by kernel_rfl) (by kernel_rfl) rfl (fun _ _ _ h => h) (by exact op_load1 one_3 rfl (fun w hw => hw.gcell hb6)) rfl hT ?_
 refine al_take (i := 5) rfl (by kernel_rfl) (by kernel_rfl) (by kernel_rfl) rfl (fun _ _ _ h => h) (op_eql rfl rfl) rfl ?_
 refine al_take (i := 6) rfl (by kernel_rfl) (by kernel_rfl) (by kernel_rfl) rfl (fun _ _ _ h => h) (op_move rfl) rfl ?_
 refine al_split (fun h13 => ?_) (fun h13 => ?_)
 ·
  skip
  try simp only [decide_eq_true_eq, decide_eq_false_iff_not, Bool.not_eq_true', Bool.not_eq_false', Bool.not_eq_eq_eq_not, Bool.not_true, Bool.not_false] at h13
  refine al_gload (i := 7) rfl (by kernel_rfl) (by kernel_rfl) (by kernel_rfl) rfl rfl rfl (fun _ _ _ h => h) (by exact op_load1 one_28 rfl (fun w hw => hw.gcell hb7)) rfl hT ?_
  refine al_gtake (i := 8) rfl (by kernel_rfl) (by kernel_rfl) (by kernel_rfl) rfl rfl rfl (fun _ _ _ h => h) (op_move rfl) rfl ?_
  refine al_gtake (i := 9) rfl (by kernel_rfl) (by kernel_rfl) (by kernel_rfl) rfl rfl rfl (fun _ _ _ h => h) (op_indexAddr sl_28 rfl rfl (by omega) (by omega) hoB) rfl ?_
  refine al_gload (i := 10) rfl (by kernel_rfl) (by kernel_rfl) (by kernel_rfl) rfl rfl rfl (fun _ _ _ h => h) (by exact op_load1 one_3 rfl (fun w hw => hw.gcell hcB)) rfl hT ?_
  refine al_gtake (i := 11) rfl (by kernel_rfl) (by kernel_rfl) (by kernel_rfl) rfl rfl rfl (fun _ _ _ h => h) (op_geq rfl rfl) rfl ?_
  refine al_take (i := 12) rfl (by kernel_rfl) (by kernel_rfl) (by kernel_rfl) rfl (fun _ _ _ h => h) (op_pick_t rfl rfl) rfl ?_
  refine al_take (i := 13) rfl (by kernel_rfl) (by kernel_rfl) (by kernel_rfl) rfl (fun _ _ _ h => h) (op_move rfl) rfl ?_
  refine al_split (fun h20 => ?_) (fun h20 => ?_)
  ·
   skip
   try simp only [decide_eq_true_eq, decide_eq_false_iff_not, Bool.not_eq_true', Bool.not_eq_false', Bool.not_eq_eq_eq_not, Bool.not_true, Bool.not_false] at h20
   refine al_gload (i := 14) rfl (by kernel_rfl) (by kernel_rfl) (by kernel_rfl) rfl rfl rfl (fun _ _ _ h => h) (by exact op_load1 one_28 rfl (fun w hw => hw.gcell hb7)) rfl hT ?_
   refine al_gtake (i := 15) rfl (by kernel_rfl) (by kernel_rfl) (by kernel_rfl) rfl rfl rfl (fun _ _ _ h => h) (op_move rfl) rfl ?_
   refine al_gtake (i := 16) rfl (by kernel_rfl) (by kernel_rfl) (by kernel_rfl) rfl rfl rfl (fun _ _ _ h => h) (op_indexAddr sl_28 rfl rfl (by omega) (by omega) hoB) rfl ?_
   refine al_gload (i := 17) rfl (by kernel_rfl) (by kernel_rfl) (by kernel_rfl) rfl rfl rfl (fun _ _ _ h => h) (by exact op_load1 one_3 rfl (fun w hw => hw.gcell hcB)) rfl hT ?_
   refine al_gload (i := 18) rfl (by kernel_rfl) (by kernel_rfl) (by kernel_rfl) rfl rfl rfl (fun _ _ _ h => h) (by exact op_load1 one_3 rfl (fun w hw => hw.gcell hb11)) rfl hT ?_
   refine al_gtake (i := 19) rfl (by kernel_rfl) (by kernel_rfl) (by kernel_rfl) rfl rfl rfl (fun _ _ _ h => h) (op_lss rfl rfl) rfl ?_
   refine al_take (i := 20) rfl (by kernel_rfl) (by kernel_rfl) (by kernel_rfl) rfl (fun _ _ _ h => h) (op_pick_t rfl rfl) rfl ?_
   refine al_take (i := 21) rfl (by kernel_rfl) (by kernel_rfl) (by kernel_rfl) rfl (fun _ _ _ h => h) (op_assign rfl) rfl ?_
   refine al_done (by kernel_rfl) ?_
   refine pq_then ?_
   refine cw_ret ?_
   refine ret1 rfl rfl ?_
   exact hS.sc_b (by simp_all <;> omega)
  ·
   skip
   try simp only [decide_eq_true_eq, decide_eq_false_iff_not, Bool.not_eq_true', Bool.not_eq_false', Bool.not_eq_eq_eq_not, Bool.not_true, Bool.not_false] at h20
   refine al_gskip (i := 14) rfl (by kernel_rfl) (by kernel_rfl) (by kernel_rfl) rfl rfl rfl rfl (fun _ _ _ h => h) (fun _ => hT) ?_
   refine al_gskip (i := 15) rfl (by kernel_rfl) (by kernel_rfl) (by kernel_rfl) rfl rfl rfl rfl (fun _ _ _ h => h) (fun _ => hT) ?_
   refine al_gskip (i := 16) rfl (by kernel_rfl) (by kernel_rfl) (by kernel_rfl) rfl rfl rfl rfl (fun _ _ _ h => h) (fun _ => hT) ?_
   refine al_gskip (i := 17) rfl (by kernel_rfl) (by kernel_rfl) (by kernel_rfl) rfl rfl rfl rfl (fun _ _ _ h => h) (fun _ => hT) ?_
   refine al_gskip (i := 18) rfl (by kernel_rfl) (by kernel_rfl) (by kernel_rfl) rfl rfl rfl rfl (fun _ _ _ h => h) (fun _ => hT) ?_
   refine al_gskip (i := 19) rfl (by kernel_rfl) (by kernel_rfl) (by kernel_rfl) rfl rfl rfl rfl (fun _ _ _ h => h) (fun _ => hT) ?_
   refine al_take (i := 20) rfl (by kernel_rfl) (by kernel_rfl) (by kernel_rfl) rfl (fun _ _ _ h => h) (op_pick_f rfl rfl) rfl ?_
   refine al_take (i := 21) rfl (by kernel_rfl) (by kernel_rfl) (by kernel_rfl) rfl (fun _ _ _ h => h) (op_assign rfl) rfl ?_
   refine al_done (by kernel_rfl) ?_
   refine pq_then ?_
   refine cw_ret ?_
   refine ret1 rfl rfl ?_
   exact hS.sc_b (by simp_all <;> omega)
 ·
  skip
  try simp only [decide_eq_true_eq, decide_eq_false_iff_not, Bool.not_eq_true', Bool.not_eq_false', Bool.not_eq_eq_eq_not, Bool.not_true, Bool.not_false] at h13
  refine al_gskip (i := 7) rfl (by kernel_rfl) (by kernel_rfl) (by kernel_rfl) rfl rfl rfl rfl (fun _ _ _ h => h) (fun _ => hT) ?_
  refine al_gskip (i := 8) rfl (by kernel_rfl) (by kernel_rfl) (by kernel_rfl) rfl rfl rfl rfl (fun _ _ _ h => h) (fun _ => hT) ?_
  refine al_gskip (i := 9) rfl (by kernel_rfl) (by kernel_rfl) (by kernel_rfl) rfl rfl rfl rfl (fun _ _ _ h => h) (fun _ => hT) ?_
  refine al_gskip (i := 10) rfl (by kernel_rfl) (by kernel_rfl) (by kernel_rfl) rfl rfl rfl rfl (fun _ _ _ h => h) (fun _ => hT) ?_
  refine al_gskip (i := 11) rfl (by kernel_rfl) (by kernel_rfl) (by kernel_rfl) rfl rfl rfl rfl (fun _ _ _ h => h) (fun _ => hT) ?_
  refine al_take (i := 12) rfl (by kernel_rfl) (by kernel_rfl) (by kernel_rfl) rfl (fun _ _ _ h => h) (op_pick_f rfl rfl) rfl ?_
  refine al_take (i := 13) rfl (by kernel_rfl) (by kernel_rfl) (by kernel_rfl) rfl (fun _ _ _ h => h) (op_move rfl) rfl ?_
  refine al_gskip (i := 14) rfl (by kernel_rfl) (by kernel_rfl) (by kernel_rfl) rfl rfl rfl rfl (fun _ _ _ h => h) (fun _ => hT) ?_
  refine al_gskip (i := 15) rfl (by kernel_rfl) (by kernel_rfl) (by kernel_rfl) rfl rfl rfl rfl (fun _ _ _ h => h) (fun _ => hT) ?_
  refine al_gskip (i := 16) rfl (by kernel_rfl) (by kernel_rfl) (by kernel_rfl) rfl rfl rfl rfl (fun _ _ _ h => h) (fun _ => hT) ?_
  refine al_gskip (i := 17) rfl (by kernel_rfl) (by kernel_rfl) (by kernel_rfl) rfl rfl rfl rfl (fun _ _ _ h => h) (fun _ => hT) ?_
  refine al_gskip (i := 18) rfl (by kernel_rfl) (by kernel_rfl) (by kernel_rfl) rfl rfl rfl rfl (fun _ _ _ h => h) (fun _ => hT) ?_
  refine al_gskip (i := 19) rfl (by kernel_rfl) (by kernel_rfl) (by kernel_rfl) rfl rfl rfl rfl (fun _ _ _ h => h) (fun _ => hT) ?_
  refine al_take (i := 20) rfl (by kernel_rfl) (by kernel_rfl) (by kernel_rfl) rfl (fun _ _ _ h => h) (op_pick_f rfl rfl) rfl ?_
  refine al_take (i := 21) rfl (by kernel_rfl) (by kernel_rfl) (by kernel_rfl) rfl (fun _ _ _ h => h) (op_assign rfl) rfl ?_
  refine al_done (by kernel_rfl) ?_
  refine pq_then ?_
  refine cw_ret ?_
  refine ret1 rfl rfl ?_
  exact hS.sc_b (by simp_all <;> omega)
set_option maxRecDepth 100000 in

theorem just_For_3_c (G : GH) (w0 : World) (hG : Holds G w0) (b8 b7 b11 : Nat) (vt vb : Value) (tl by_ : List Int) (k : Nat) (ht : RSl 1 EInt G vt tl) (hby : RSl 1 EInt G vb by_) (hb8 : gcell G ⟨b8, 0, none⟩ = some vt) (hb7 : gcell G ⟨b7, 0, none⟩ = some vb) (hb11 : gcell G ⟨b11, 0, none⟩ = some (.int .i64 (k : Nat))) (l : List Step) (u : Value) (ns : List Int) (v : Int) (oa : Option Addr) (c : Nat) (hu : u = .slice oa ns.length c) (h1 : RSl 1 EInt G u ns) (hin : ∀ a ∈ ns, (0 ≤ a ∧ a < tl.length) ∧ a < by_.length ∧ valI by_ a = byI l a) :
   Calls Try.prog 45 #[u, .int .i64 v, .pointer (some ⟨b8, 0, none⟩), .pointer (some ⟨b7, 0, none⟩), .pointer (some ⟨b11, 0, none⟩)] w0 (Sc w0 (.slice (ahO oa c (aheadI l tl k ns v)) (ahN (aheadI l tl k ns v)) (ahC c (aheadI l tl k ns v)))) := by
 subst hu
 have hle := h1.le
 have hln := h1.len
 have hal : (aheadI l tl k ns v) < ns.length := findP_len _ _
 refine enter Try.func45 rfl (N := 21) rfl (Nat.le_of_ble_eq_true rfl) ?_
 have hS := SS.init hG
 refine cw_seq ?_
 refine cw_region ?_
 refine ol_step rfl (op_box hS rfl rfl) ?_
 clear hS
 rintro _ w ⟨b6, rfl, hS⟩
 refine ol_pure rfl (op_assign rfl) ?_
 refine ol_nil ?_
 refine pq_then ?_
 refine cw_seq ?_
 refine cw_region ?_
 refine ol_pure rfl (op_makeFunc rfl rfl) ?_
 refine ol_pure rfl (op_assign rfl) ?_
 refine ol_nil ?_
 refine pq_then ?_
 refine cw_seq ?_
 refine cw_seq ?_
 refine cw_region ?_
 refine ol_pure rfl (op_move rfl) ?_
 refine ol_pure rfl (op_move rfl) ?_
 refine ol_step rfl (op_call_sc hS cf_47 rfl (slices_IndexFunc_c (fullG _) _ (Holds.full _) _ ns (h1.mono EInt.mono hS.hold.le_full) (fun a => decide (valI tl a = v) && decide (0 ≤ byI l a) && decide (byI l a < k)) 46 [.pointer (some ⟨b8, 0, none⟩), .pointer (some ⟨b6, 0, none⟩), .pointer (some ⟨b7, 0, none⟩), .pointer (some ⟨b11, 0, none⟩)] cf_46 (fun w1 hB x hx => by rw [← (hin x hx).2.2]; exact just_For_3_1_c (fullG _) w1 ((Holds.full _).below hB) b8 b7 b11 vt vb tl by_ k (ht.mono EInt.mono hS.hold.le_full) (hby.mono EInt.mono hS.hold.le_full) (hS.hold.le_full.cell hb8) (hS.hold.le_full.cell hb7) (hS.hold.le_full.cell hb11) b6 v (hS.bcell0 (i := 0) rfl) x (hin x hx).1 (hin x hx).2.1))) ?_
 clear hS
 rintro _ w ⟨rfl, hS⟩
 rw [show findP (fun a => decide (valI tl a = v) && decide (0 ≤ byI l a) && decide (byI l a < k)) ns = (aheadI l tl k ns v) from rfl]
 refine ol_pure rfl (op_assign rfl) ?_
 refine ol_nil ?_
 refine pq_then ?_
 refine cw_seq ?_
 refine cw_region ?_
 refine ol_pure rfl (op_move rfl) ?_
 refine ol_pure rfl (op_geq rfl rfl) ?_
 refine ol_nil ?_
 refine pq_then ?_
 refine cw_cond rfl (fun h15 => ?_) (fun h15 => ?_)
 ·
  skip
  try simp only [decide_eq_true_eq, decide_eq_false_iff_not, Bool.not_eq_true', Bool.not_eq_false', Bool.not_eq_eq_eq_not, Bool.not_true, Bool.not_false] at h15
  obtain ⟨i, hi⟩ := Int.eq_ofNat_of_zero_le h15
  have hii : (i : Int) < ns.length := by omega
  rw [hi]
  refine cw_seq ?_
  refine cw_region ?_
  refine ol_pure rfl (op_move rfl) ?_
  refine ol_pure rfl (op_move rfl) ?_
  refine ol_pure rfl (op_move rfl) ?_
  refine ol_pure rfl (op_val (op_add rfl rfl (by omega) (by omega)) (v' := .int .i64 ((i + 1 : Nat) : Int)) rfl) ?_
  refine ol_pure rfl (op_slice_lh sl_28 rfl rfl rfl (by omega) (by omega)) ?_
  refine ol_pure rfl (op_assign rfl) ?_
  refine ol_nil ?_
  refine pq_then ?_
  refine cw_ret ?_
  refine pq_ret ?_
  refine ret1 rfl rfl ?_
  refine hS.sc_eq ?_
  unfold ahO ahN ahC
  rw [hi] at h15
  rw [if_pos h15, if_pos h15, if_pos h15]
  simp
 ·
  skip
  try simp only [decide_eq_true_eq, decide_eq_false_iff_not, Bool.not_eq_true', Bool.not_eq_false', Bool.not_eq_eq_eq_not, Bool.not_true, Bool.not_false] at h15
  refine cw_skip ?_
  refine pq_then ?_
  refine cw_seq ?_
  refine cw_region ?_
  refine ol_pure rfl (op_assign rfl) ?_
  refine ol_nil ?_
  refine pq_then ?_
  refine cw_ret ?_
  refine ret1 rfl rfl ?_
  refine hS.sc_eq ?_
  unfold ahO ahN ahC
  rw [if_neg h15, if_neg h15, if_neg h15]
end Go.Proofs.Ytmkgechdfimfnaa.K
