/-
  Heaps: what is a place, what is bound, where slots lead, what is followed.
  No condition but the premises that each theorem names.
-/
import Derived.Test.YtnmkffkalnkbbaaTerms
import Derived.Test.YtnmkffkalnkbbaaPhc
import Derived.Test.YtnmkffkalnkbbaaHpk
import Derived.Test.YtnmkffkalnkbbaaMeet
namespace Go.Proofs.Ytnmkffkalnkbbaa.K
open Go Go.RowKit
set_option linter.unusedVariables false
set_option linter.unusedSimpArgs false

open Pl
/-- A heap, read. -/
def EHeap (G : GH) (v : Value) (cs : List Cell) (tr : List Int) (room : Int) : Prop := ∃ oc cc ot ct, v = .agg #[.slice oc cs.length cc, .slice ot tr.length ct, .int .i64 room] ∧ RSl 3 ECell G (.slice oc cs.length cc) cs ∧ RSl 1 EInt G (.slice ot tr.length ct) tr
theorem EHeap.mono {G G' : GH} {v : Value} {cs : List Cell} {tr : List Int} {room : Int} (h : EHeap G v cs tr room) (hl : Le G G') : EHeap G' v cs tr room := by
  obtain ⟨oc, cc, ot, ct, h1, h2, h3⟩ := h
  exact ⟨oc, cc, ot, ct, h1, h2.mono ECell.mono hl, h3.mono EInt.mono hl⟩
theorem heap_mono {cs : List Cell} {tr : List Int} {room : Int} : ∀ (G1 G2 : GH) (v : Value), Le G1 G2 → EHeap G1 v cs tr room → EHeap G2 v cs tr room := fun _ _ _ hl h => h.mono hl
theorem leads_bnd {cs : List Cell} (hs : ShOk cs) (hle : cs.length ≤ 9223372036854775807) {p : Nat} (h : p < cs.length) : ∀ x ∈ leadsI cs (p : Int), -9223372036854775808 ≤ x ∧ x ≤ 9223372036854775807 := fun x hx => by
  have := leads_range hs h hx
  omega
theorem leads_top {cs : List Cell} {p : Nat} (h : p < cs.length) (h3 : ¬ cs[p].kind = 3) (h1 : ¬ (cs[p].kind = 1 ∧ cs[p].n ≠ p)) (h4 : cs[p].kind = 4) : leadsI cs (p : Int) = (List.range cs[p].n.toNat).map fun (i : Nat) => (p : Int) + 1 + i := by
  rw [leadsI_at h, if_neg (by omega), if_pos h4]
theorem leads_one {cs : List Cell} {p : Nat} (h : p < cs.length) (h3 : cs[p].kind = 3 ∨ (cs[p].kind = 1 ∧ cs[p].n ≠ p)) : leadsI cs (p : Int) = [cs[p].n] := by
  rw [leadsI_at h, if_pos h3]
theorem leads_no {cs : List Cell} {p : Nat} (h : p < cs.length) (h3 : ¬ cs[p].kind = 3) (h1 : ¬ (cs[p].kind = 1 ∧ cs[p].n ≠ p)) (h4 : ¬ cs[p].kind = 4) : leadsI cs (p : Int) = [] := by
  rw [leadsI_at h, if_neg (by omega), if_neg h4]
theorem Rows.ints {l : List Int} (h : ∀ x ∈ l, -9223372036854775808 ≤ x ∧ x ≤ 9223372036854775807) : Rows 1 EInt noG (l.map (Value.int .i64)) l := Rows.of_map (fun x hx => ⟨rfl, h x hx⟩)
theorem Rows.boolsG (G : GH) (l : List Bool) : Rows 1 EBool G (l.map Value.bool) l := Rows.of_map (fun _ _ => rfl)
def upI (p : Int) (m : Nat) : List Int := (List.range m).map fun (i : Nat) => p + 1 + i
theorem upI_len (p : Int) (m : Nat) : (upI p m).length = m := by simp [upI]
theorem upI_succ (p : Int) (m : Nat) : upI p (m + 1) = upI p m ++ [p + 1 + m] := by simp [upI, List.range_succ]

set_option maxRecDepth 100000 in

theorem R08_Is_c (G : GH) (w0 : World) (hG : Holds G w0) (hv : Value) (cs : List Cell) (tr : List Int) (room : Int) (hh : EHeap G hv cs tr room) (a : Int) :
   Calls Try.prog 35 #[hv, .int .i64 a] w0 (Sc w0 (.bool (isP cs.length a))) := by
 have hh0 := hh
 obtain ⟨oc, cc, ot, ct, rfl, h1, h2⟩ := hh
 have hle := h1.le
 have hle2 := h2.le
 refine enter Try.func35 rfl (N := 14) rfl (Nat.le_of_ble_eq_true rfl) ?_
 have hS := SS.init hG
 refine cw_seq (cw_region ?_)
 refine ol_step rfl (op_box hS rfl rfl) ?_
 clear hS
 rintro _ w ⟨b2, rfl, hS⟩
 refine ol_pure rfl (op_assign rfl) (ol_nil (pq_then (cw_seq (cw_region (ol_pure rfl (op_move rfl) (ol_pure rfl (op_geq rfl rfl) (ol_pure rfl (op_move rfl) ?_)))))))
 refine ol_split (fun h7 => ?_) (fun h7 => ?_)
 ·
  try simp only [dqT, dqF, dq1, dq2, dq3, dq4, dq5] at h7
  refine ol_guard_pure rfl rfl rfl (op_move rfl) (ol_guard_pure rfl rfl rfl (op_fieldAddr fld_28_0 rfl) (ol_guard_load rfl rfl rfl (op_load1 one_25 rfl (fun w hw => (hw.bcell (i := 0) rfl).trans rfl)) hS (ol_guard_pure rfl rfl rfl (op_len sl_25 rfl rfl) (ol_guard_pure rfl rfl rfl (op_lss rfl rfl) (ol_pure rfl (op_pick_t rfl rfl) (ol_pure rfl (op_assign rfl) (ol_nil ?_)))))))
  refine pq_then (cw_ret (ret1 rfl rfl ?_))
  exact hS.sc_b (by unfold isP; rw [decide_eq_true (show 0 ≤ a by omega), Bool.true_and])
 ·
  try simp only [dqT, dqF, dq1, dq2, dq3, dq4, dq5] at h7
  refine ol_guard_no rfl rfl rfl rfl (ol_guard_no rfl rfl rfl rfl (ol_guard_no rfl rfl rfl rfl (ol_guard_no rfl rfl rfl rfl (ol_guard_no rfl rfl rfl rfl (ol_pure rfl (op_pick_f rfl rfl) (ol_pure rfl (op_assign rfl) (ol_nil ?_)))))))
  refine pq_then (cw_ret (ret1 rfl rfl ?_))
  exact hS.sc_b (by unfold isP; rw [decide_eq_false (show ¬ 0 ≤ a by omega)]; rfl)
set_option maxRecDepth 100000 in

theorem R08_Bound_c (G : GH) (w0 : World) (hG : Holds G w0) (hv : Value) (cs : List Cell) (tr : List Int) (room : Int) (hh : EHeap G hv cs tr room) (a : Int) :
   Calls Try.prog 47 #[hv, .int .i64 a] w0 (Sc w0 (.bool (boundB cs a))) := by
 have hh0 := hh
 obtain ⟨oc, cc, ot, ct, rfl, h1, h2⟩ := hh
 have hle := h1.le
 have hle2 := h2.le
 refine enter Try.func47 rfl (N := 27) rfl (Nat.le_of_ble_eq_true rfl) ?_
 have hS := SS.init hG
 refine cw_seq (cw_region ?_)
 refine ol_step rfl (op_box hS rfl rfl) ?_
 clear hS
 rintro _ w ⟨b2, rfl, hS⟩
 refine ol_pure rfl (op_assign rfl) (ol_nil (pq_then (cw_seq (cw_region (ol_load rfl (op_loadN agg_28 rfl (by rfl) (fun w hw k u hk => (hw.bcell (i := 0) rfl).trans hk)) hS (ol_pure rfl (op_move rfl) ?_))))))
 refine ol_step rfl (op_call_sc hS cf_35 rfl (R08_Is_c G _ hS.hold _ cs tr room hh0 a)) ?_
 clear hS
 rintro _ w ⟨rfl, hS⟩
 refine ol_pure rfl (op_move rfl) ?_
 refine ol_split (fun h8 => ?_) (fun h8 => ?_)
 ·
  try simp only [dqT, dqF, dq1, dq2, dq3, dq4, dq5] at h8
  have ha := isP_iff.1 h8
  obtain ⟨p, rfl⟩ := Int.eq_ofNat_of_zero_le ha.1
  have hlt : p < cs.length := by omega
  obtain ⟨hoa, hbd, hcells⟩ := h1.cellAt hlt
  have hba := boundB_at hlt
  refine ol_guard_pure rfl rfl rfl (op_fieldAddr fld_28_0 rfl) (ol_guard_load rfl rfl rfl (op_load1 one_25 rfl (fun w hw => (hw.bcell (i := 0) rfl).trans rfl)) hS (ol_guard_pure rfl rfl rfl (op_move rfl) (ol_guard_pure rfl rfl rfl (op_indexN sl_25 rfl rfl (by omega) hoa) (ol_guard_pure rfl rfl rfl (op_fieldAddr fld_49_0 rfl) (ol_guard_load rfl rfl rfl (op_load1 one_3 rfl (fun w hw => hw.gcell (hcells 0 _ rfl))) hS (ol_guard_pure rfl rfl rfl (op_eql rfl rfl) (ol_pure rfl (op_pick_t rfl rfl) ?_)))))))
  refine ol_pure rfl (op_move rfl) ?_
  refine ol_split (fun h17 => ?_) (fun h17 => ?_)
  ·
   try simp only [dqT, dqF, dq1, dq2, dq3, dq4, dq5] at h17
   refine ol_guard_pure rfl rfl rfl (op_fieldAddr fld_28_0 rfl) (ol_guard_load rfl rfl rfl (op_load1 one_25 rfl (fun w hw => (hw.bcell (i := 0) rfl).trans rfl)) hS (ol_guard_pure rfl rfl rfl (op_move rfl) (ol_guard_pure rfl rfl rfl (op_indexN sl_25 rfl rfl (by omega) hoa) (ol_guard_pure rfl rfl rfl (op_fieldAddr fld_49_2 rfl) (ol_guard_load rfl rfl rfl (op_load1 one_3 rfl (fun w hw => hw.gcell (hcells 2 _ rfl))) hS (ol_guard_pure rfl rfl rfl (op_move rfl) (ol_guard_pure rfl rfl rfl (op_neq rfl rfl) ?_)))))))
   refine ol_pure rfl (op_pick_t rfl rfl) (ol_pure rfl (op_assign rfl) (ol_nil (pq_then (cw_ret (ret1 rfl rfl ?_)))))
   exact hS.sc_b (by rw [hba, decide_eq_true h17, Bool.true_and]; simp)
  ·
   try simp only [dqT, dqF, dq1, dq2, dq3, dq4, dq5] at h17
   refine ol_guard_no rfl rfl rfl rfl (ol_guard_no rfl rfl rfl rfl (ol_guard_no rfl rfl rfl rfl (ol_guard_no rfl rfl rfl rfl (ol_guard_no rfl rfl rfl rfl (ol_guard_no rfl rfl rfl rfl (ol_guard_no rfl rfl rfl rfl (ol_guard_no rfl rfl rfl rfl ?_)))))))
   refine ol_pure rfl (op_pick_f rfl rfl) (ol_pure rfl (op_assign rfl) (ol_nil (pq_then (cw_ret (ret1 rfl rfl ?_)))))
   exact hS.sc_b (by rw [hba, decide_eq_false h17]; rfl)
 ·
  try simp only [dqT, dqF, dq1, dq2, dq3, dq4, dq5] at h8
  refine ol_guard_no rfl rfl rfl rfl (ol_guard_no rfl rfl rfl rfl (ol_guard_no rfl rfl rfl rfl (ol_guard_no rfl rfl rfl rfl (ol_guard_no rfl rfl rfl rfl (ol_guard_no rfl rfl rfl rfl (ol_guard_no rfl rfl rfl rfl (ol_pure rfl (op_pick_f rfl rfl) ?_)))))))
  refine ol_pure rfl (op_move rfl) (ol_guard_no rfl rfl rfl rfl (ol_guard_no rfl rfl rfl rfl (ol_guard_no rfl rfl rfl rfl (ol_guard_no rfl rfl rfl rfl (ol_guard_no rfl rfl rfl rfl (ol_guard_no rfl rfl rfl rfl (ol_guard_no rfl rfl rfl rfl ?_)))))))
  refine ol_guard_no rfl rfl rfl rfl (ol_pure rfl (op_pick_f rfl rfl) (ol_pure rfl (op_assign rfl) (ol_nil (pq_then (cw_ret (ret1 rfl rfl ?_))))))
  exact hS.sc_b (by rw [boundB_out (fun hc => by have := isP_iff.2 hc; rw [this] at h8; cases h8)])
set_option maxRecDepth 100000 in
set_option maxHeartbeats 400000 in

theorem R08_Leads_c (G : GH) (w0 : World) (hG : Holds G w0) (hv : Value) (cs : List Cell) (tr : List Int) (room : Int) (hh : EHeap G hv cs tr room) (p : Nat) (hp : p < cs.length) (hs : ShOk cs) :
   Calls Try.prog 57 #[hv, .int .i64 (p : Nat)] w0 (Rt noG w0 (fun G v => RSl 1 EInt G v (leadsI cs p))) := by
 have hh0 := hh
 obtain ⟨oc, cc, ot, ct, rfl, h1, h2⟩ := hh
 have hle := h1.le
 have hle2 := h2.le
 obtain ⟨hoa, hbd, hcells⟩ := h1.cellAt hp
 have hso := hs p hp
 unfold SlotOk at hso
 have hbn := leads_bnd hs (by omega) hp
 refine enter Try.func57 rfl (N := 51) rfl (Nat.le_of_ble_eq_true rfl) ?_
 have hS := SS.init hG
 refine cw_seq (cw_region ?_)
 refine ol_step rfl (op_box hS rfl rfl) ?_
 clear hS
 rintro _ w ⟨b2, rfl, hS⟩
 refine ol_pure rfl (op_assign rfl) (ol_nil (pq_then (cw_seq (cw_region (ol_pure rfl (op_fieldAddr fld_28_0 rfl) (ol_load rfl (op_load1 one_25 rfl (fun w hw => (hw.bcell (i := 0) rfl).trans rfl)) hS (ol_pure rfl (op_move rfl) ?_)))))))
 refine ol_pure rfl (op_indexN sl_25 rfl rfl (by omega) hoa) (ol_load rfl (op_loadN agg_49 rfl (by rfl) (fun w hw k u hk => hw.gcell (hcells k u hk))) hS ?_)
 refine ol_step rfl (op_buildSlice (el := 3) (is := []) (xs := []) (sz := 1) (cs := []) hS rfl rfl (fun w => by kernel_rfl) rfl (by decide)) ?_
 clear hS
 rintro _ w ⟨o6, rfl, hS⟩
 refine ol_step rfl (op_alloc hS el_49 rfl) ?_
 clear hS
 rintro _ w ⟨b5, rfl, hS⟩
 refine ol_step0  (op_storeN (j := 0) hS sz_49 rfl rfl rfl rfl rfl (by simp [Value.oneCell'])) ?_
 clear hS
 rintro _ w hS; (try simp only [List.nil_append, List.cons_append, List.set] at hS)
 refine ol_pure rfl (op_assign rfl) (ol_nil (pq_then ?_))
 refine cw_cut (fun e w => ∃ (o6 : Option Addr) (l6 c6 : Nat) (us : List Int), e = [(1, .int .i64 (p : Nat)), (5, .pointer (some ⟨b5, 0, none⟩)), (6, .slice o6 l6 c6)] ∧ l6 = us.length ∧ ((cs[p].kind ≠ 4 ∧ us = leadsI cs p) ∨ (cs[p].kind = 4 ∧ us = [])) ∧ SS G w0 G [.blk b5 49 [.int .i64 cs[p].kind, .string cs[p].name, .int .i64 cs[p].n], .row o6 l6 c6 3 1 (us.map (Value.int .i64)), .blk b2 28 [.slice oc cs.length cc, .slice ot tr.length ct, .int .i64 room]] w) ?_ ?_
 ·
  refine cw_seq (cw_region (ol_pure rfl (op_fieldAddr fld_49_0 rfl) (ol_load rfl (op_load1 one_3 rfl (fun w hw => (hw.bcell (i := 0) rfl).trans rfl)) hS (ol_pure rfl (op_eql rfl rfl) (ol_pure rfl (op_move rfl) ?_)))))
  refine ol_split (fun h17 => ?_) (fun h17 => ?_)
  ·
   try simp only [dqT, dqF, dq1, dq2, dq3, dq4, dq5] at h17
   refine ol_guard_no rfl rfl rfl rfl (ol_guard_no rfl rfl rfl rfl (ol_guard_no rfl rfl rfl rfl (ol_guard_no rfl rfl rfl rfl (ol_guard_undef rfl rfl rfl (ol_guard_undef rfl rfl rfl (ol_guard_undef rfl rfl rfl (ol_guard_undef rfl rfl rfl ?_)))))))
   refine ol_guard_no rfl rfl rfl rfl (ol_pure rfl (op_pick_t rfl rfl) (ol_nil (pq_then (cw_cond_t rfl (cw_region (ol_pure rfl (op_move rfl) (ol_pure rfl (op_fieldAddr fld_49_2 rfl) ?_)))))))
   refine ol_load rfl (op_load1 one_3 rfl (fun w hw => (hw.bcell (i := 0) rfl).trans rfl)) hS ?_
   refine ol_step rfl (op_buildSlice (el := 3) (is := [0]) (xs := [.tmp 30]) (sz := 1) (cs := [.int .i64 cs[p].n]) hS rfl rfl (fun w => by kernel_rfl) rfl (by decide)) ?_
   clear hS
   rintro _ w ⟨s31, rfl, hS⟩
   refine ol_step rfl (op_append (j := 2) hS sl_26 el_3 rfl rfl rfl rfl rfl rfl (by decide) (hS.news (j := 0) rfl) (by simp [Value.oneCell']) (by omega) (by unfold maxLen; omega)) ?_
   clear hS
   rintro _ w ⟨o6n, c_o6n, rfl, hS⟩; (try simp only [List.nil_append, List.cons_append, List.set] at hS); replace hS := SS.drop [] hS; (try simp only [List.nil_append, List.cons_append] at hS)
   refine ol_pure rfl (op_assign rfl) (ol_nil ?_)
   refine pq_cut _ (by exact (by first | exact ⟨o6n, _, c_o6n, [cs[p].n], rfl, rfl, .inl ⟨by omega, by rw [leads_one hp (by omega)]⟩, hS⟩ | exact (by by_cases h4 : cs[p].kind = 4; exact ⟨o6, 0, _, [], rfl, rfl, .inr ⟨h4, rfl⟩, hS⟩; exact ⟨o6, 0, _, [], rfl, rfl, .inl ⟨h4, by rw [leads_no hp (by omega) (by omega) h4]⟩, hS⟩))) ((Sub.cons rfl (Sub.cons rfl (Sub.cons rfl Sub.nil))))
  ·
   try simp only [dqT, dqF, dq1, dq2, dq3, dq4, dq5] at h17
   refine ol_guard_pure rfl rfl rfl (op_fieldAddr fld_49_0 rfl) (ol_guard_load rfl rfl rfl (op_load1 one_3 rfl (fun w hw => (hw.bcell (i := 0) rfl).trans rfl)) hS (ol_guard_pure rfl rfl rfl (op_eql rfl rfl) (ol_guard_pure rfl rfl rfl (op_move rfl) ?_)))
   refine ol_split (fun h21 => ?_) (fun h21 => ?_)
   ·
    try simp only [dqT, dqF, dq1, dq2, dq3, dq4, dq5] at h21
    refine ol_guard_pure rfl rfl rfl (op_fieldAddr fld_49_2 rfl) (ol_guard_load rfl rfl rfl (op_load1 one_3 rfl (fun w hw => (hw.bcell (i := 0) rfl).trans rfl)) hS (ol_guard_pure rfl rfl rfl (op_move rfl) (ol_guard_pure rfl rfl rfl (op_neq rfl rfl) (ol_guard_pure rfl rfl rfl (op_pick_t rfl rfl) (ol_pure rfl (op_pick_f rfl rfl) (ol_nil (pq_then ?_)))))))
    refine cw_cond rfl (fun h27 => ?_) (fun h27 => ?_)
    ·
     try simp only [dqT, dqF, dq1, dq2, dq3, dq4, dq5] at h27
     refine cw_region (ol_pure rfl (op_move rfl) (ol_pure rfl (op_fieldAddr fld_49_2 rfl) (ol_load rfl (op_load1 one_3 rfl (fun w hw => (hw.bcell (i := 0) rfl).trans rfl)) hS ?_)))
     refine ol_step rfl (op_buildSlice (el := 3) (is := [0]) (xs := [.tmp 30]) (sz := 1) (cs := [.int .i64 cs[p].n]) hS rfl rfl (fun w => by kernel_rfl) rfl (by decide)) ?_
     clear hS
     rintro _ w ⟨s31, rfl, hS⟩
     refine ol_step rfl (op_append (j := 2) hS sl_26 el_3 rfl rfl rfl rfl rfl rfl (by decide) (hS.news (j := 0) rfl) (by simp [Value.oneCell']) (by omega) (by unfold maxLen; omega)) ?_
     clear hS
     rintro _ w ⟨o6n, c_o6n, rfl, hS⟩; (try simp only [List.nil_append, List.cons_append, List.set] at hS); replace hS := SS.drop [] hS; (try simp only [List.nil_append, List.cons_append] at hS)
     refine ol_pure rfl (op_assign rfl) (ol_nil ?_)
     refine pq_cut _ (by exact (by first | exact ⟨o6n, _, c_o6n, [cs[p].n], rfl, rfl, .inl ⟨by omega, by rw [leads_one hp (by omega)]⟩, hS⟩ | exact (by by_cases h4 : cs[p].kind = 4; exact ⟨o6, 0, _, [], rfl, rfl, .inr ⟨h4, rfl⟩, hS⟩; exact ⟨o6, 0, _, [], rfl, rfl, .inl ⟨h4, by rw [leads_no hp (by omega) (by omega) h4]⟩, hS⟩))) ((Sub.cons rfl (Sub.cons rfl (Sub.cons rfl Sub.nil))))
    ·
     try simp only [dqT, dqF, dq1, dq2, dq3, dq4, dq5] at h27
     refine cw_skip ?_
     refine pq_cut _ (by exact (by first | exact ⟨o6n, _, c_o6n, [cs[p].n], rfl, rfl, .inl ⟨by omega, by rw [leads_one hp (by omega)]⟩, hS⟩ | exact (by by_cases h4 : cs[p].kind = 4; exact ⟨o6, 0, _, [], rfl, rfl, .inr ⟨h4, rfl⟩, hS⟩; exact ⟨o6, 0, _, [], rfl, rfl, .inl ⟨h4, by rw [leads_no hp (by omega) (by omega) h4]⟩, hS⟩))) ((Sub.cons rfl (Sub.cons rfl (Sub.cons rfl Sub.nil))))
   ·
    try simp only [dqT, dqF, dq1, dq2, dq3, dq4, dq5] at h21
    refine ol_guard_no rfl rfl rfl rfl (ol_guard_no rfl rfl rfl rfl (ol_guard_no rfl rfl rfl rfl (ol_guard_no rfl rfl rfl rfl (ol_guard_pure rfl rfl rfl (op_pick_f rfl rfl) (ol_pure rfl (op_pick_f rfl rfl) (ol_nil (pq_then ?_)))))))
    refine cw_cond_f rfl (cw_skip ?_)
    refine pq_cut _ (by exact (by first | exact ⟨o6n, _, c_o6n, [cs[p].n], rfl, rfl, .inl ⟨by omega, by rw [leads_one hp (by omega)]⟩, hS⟩ | exact (by by_cases h4 : cs[p].kind = 4; exact ⟨o6, 0, _, [], rfl, rfl, .inr ⟨h4, rfl⟩, hS⟩; exact ⟨o6, 0, _, [], rfl, rfl, .inl ⟨h4, by rw [leads_no hp (by omega) (by omega) h4]⟩, hS⟩))) ((Sub.cons rfl (Sub.cons rfl (Sub.cons rfl Sub.nil))))
 clear hS
 rintro e w ⟨o6, l6, c6, us, rfl, rfl, hus, hS⟩
 refine cw_seq (cw_seq (cw_region (ol_pure rfl (op_assign rfl) (ol_nil (pq_then (cw_block ?_))))))
 refine cw_loop (fun e w n => ∃ (o6 : Option Addr) (l6 c6 : Nat) (i : Int) (m : Nat) (us : List Int), e = [(1, .int .i64 (p : Nat)), (5, .pointer (some ⟨b5, 0, none⟩)), (6, .slice o6 l6 c6), (7, .int .i64 i)] ∧ i = m + 1 ∧ l6 = us.length ∧ ((cs[p].kind ≠ 4 ∧ us = leadsI cs p ∧ m = 0) ∨ (cs[p].kind = 4 ∧ (m : Int) ≤ cs[p].n ∧ us = upI p m)) ∧ n = (if cs[p].kind = 4 then cs[p].n.toNat - m else 0) ∧ SS G w0 G [.blk b5 49 [.int .i64 cs[p].kind, .string cs[p].name, .int .i64 cs[p].n], .row o6 l6 c6 3 1 (us.map (Value.int .i64)), .blk b2 28 [.slice oc cs.length cc, .slice ot tr.length ct, .int .i64 room]] w) _ _ (by exact ⟨o6, _, c6, 1, 0, us, rfl, rfl, rfl, hus.elim (fun h => .inl ⟨h.1, h.2, rfl⟩) (fun h => .inr ⟨h.1, by omega, h.2⟩), rfl, hS⟩) ((Sub.cons rfl (Sub.cons rfl (Sub.cons rfl (Sub.cons rfl Sub.nil))))) ?_
 clear hS
 rintro e w n ⟨o6, l6, c6, i, m, us, rfl, rfl, rfl, hus, rfl, hS⟩
 refine cw_seq (cw_seq (cw_region (ol_pure rfl (op_fieldAddr fld_49_0 rfl) (ol_load rfl (op_load1 one_3 rfl (fun w hw => (hw.bcell (i := 0) rfl).trans rfl)) hS (ol_pure rfl (op_eql rfl rfl) (ol_pure rfl (op_move rfl) ?_))))))
 refine ol_split (fun h36 => ?_) (fun h36 => ?_)
 ·
  try simp only [dqT, dqF, dq1, dq2, dq3, dq4, dq5] at h36
  have hul : us.length = m := by rcases hus with h | h; exact absurd h36 h.1; rw [h.2.2, upI_len]
  refine ol_guard_pure rfl rfl rfl (op_move rfl) (ol_guard_pure rfl rfl rfl (op_fieldAddr fld_49_2 rfl) (ol_guard_load rfl rfl rfl (op_load1 one_3 rfl (fun w hw => (hw.bcell (i := 0) rfl).trans rfl)) hS (ol_guard_pure rfl rfl rfl (op_leq rfl rfl) (ol_pure rfl (op_pick_t rfl rfl) (ol_nil (pq_then ?_))))))
  refine cw_cond rfl (fun h41 => ?_) (fun h41 => ?_)
  ·
   try simp only [dqT, dqF, dq1, dq2, dq3, dq4, dq5] at h41
   refine cw_skip (pq_then (cw_seq (cw_block (cw_region (ol_pure rfl (op_move rfl) (ol_pure rfl (op_move rfl) (ol_pure rfl (op_move rfl) ?_)))))))
   refine ol_pure rfl (op_add rfl rfl (by omega) (by omega)) ?_
   refine ol_step rfl (op_buildSlice (el := 3) (is := [0]) (xs := [.tmp 47]) (sz := 1) (cs := [.int .i64 (p + (m + 1))]) hS rfl rfl (fun w => by kernel_rfl) rfl (by decide)) ?_
   clear hS
   rintro _ w ⟨s48, rfl, hS⟩
   refine ol_step rfl (op_append (j := 2) hS sl_26 el_3 rfl rfl rfl rfl rfl rfl (by decide) (hS.news (j := 0) rfl) (by simp [Value.oneCell']) (by omega) (by unfold maxLen; omega)) ?_
   clear hS
   rintro _ w ⟨o6n, c_o6n, rfl, hS⟩; (try simp only [List.nil_append, List.cons_append, List.set] at hS); replace hS := SS.drop [] hS; (try simp only [List.nil_append, List.cons_append] at hS)
   refine ol_pure rfl (op_assign rfl) (ol_nil (pq_in_normal (pq_then (cw_region (ol_pure rfl (op_move rfl) (ol_pure rfl (op_add rfl rfl (by omega) (by omega)) (ol_pure rfl (op_assign rfl) ?_)))))))
   refine ol_nil ?_
   refine pq_loop _ _ (by exact ⟨o6n, us.length + 1, c_o6n, m + 1 + 1, m + 1, upI p (m + 1), rfl, by omega, by rw [upI_len]; omega, .inr ⟨h36, by omega, rfl⟩, rfl, by rcases hus with h | h; exact absurd h36 h.1; rw [upI_succ, ← h.2.2, show (p : Int) + 1 + m = p + (m + 1) from by omega]; simpa using hS⟩) ((Sub.cons rfl (Sub.cons rfl (Sub.cons rfl (Sub.cons rfl Sub.nil))))) (by rw [if_pos h36, if_pos h36]; omega)
  ·
   try simp only [dqT, dqF, dq1, dq2, dq3, dq4, dq5] at h41
   refine cw_exit (pq_exit (pq_exit (pq_in_exit (pq_then (cw_seq (cw_region (ol_pure rfl (op_move rfl) ?_)))))))
   refine ol_pure rfl (op_assign rfl) (ol_nil (pq_then (cw_ret (ret1 rfl rfl ?_))))
   have hul : us = leadsI cs (p : Int) := by
     rcases hus with h | h
     · exact h.2.1
     · first
       | exact absurd h.1 (by omega)
       | (rw [leads_top hp (by omega) (by omega) h.1, h.2.2, show m = cs[p].n.toNat from by omega]
          rfl)
   rw [← hul]
   exact hS.rt_row [_] (by decide) (Rows.ints (by rw [hul]; exact hbn)) EInt.mono rfl
 ·
  try simp only [dqT, dqF, dq1, dq2, dq3, dq4, dq5] at h36
  refine ol_guard_no rfl rfl rfl rfl (ol_guard_no rfl rfl rfl rfl (ol_guard_no rfl rfl rfl rfl (ol_guard_no rfl rfl rfl rfl (ol_pure rfl (op_pick_f rfl rfl) (ol_nil (pq_then (cw_cond_f rfl ?_)))))))
  refine cw_exit (pq_exit (pq_exit (pq_in_exit (pq_then (cw_seq (cw_region (ol_pure rfl (op_move rfl) ?_)))))))
  refine ol_pure rfl (op_assign rfl) (ol_nil (pq_then (cw_ret (ret1 rfl rfl ?_))))
  have hul : us = leadsI cs (p : Int) := by
    rcases hus with h | h
    · exact h.2.1
    · first
      | exact absurd h.1 (by omega)
      | (rw [leads_top hp (by omega) (by omega) h.1, h.2.2, show m = cs[p].n.toNat from by omega]
         rfl)
  rw [← hul]
  exact hS.rt_row [_] (by decide) (Rows.ints (by rw [hul]; exact hbn)) EInt.mono rfl
set_option maxRecDepth 100000 in

theorem R08_Follow_c (G : GH) (w0 : World) (hG : Holds G w0) (hv : Value) (cs : List Cell) (tr : List Int) (room : Int) (hh : EHeap G hv cs tr room) (hs : ShOk cs) (a b : Int) (m : Nat) (h0 : 0 ≤ a) (ha : a < cs.length) (hf : FolN cs m a b) :
   Calls Try.prog 53 #[hv, .int .i64 a] w0 (Sc w0 (.int .i64 b)) := by
 have hh0 := hh
 obtain ⟨oc, cc, ot, ct, rfl, h1, h2⟩ := hh
 have hle := h1.le
 have hle2 := h2.le
 refine enter Try.func53 rfl (N := 24) rfl (Nat.le_of_ble_eq_true rfl) ?_
 have hS := SS.init hG
 refine cw_seq (cw_region ?_)
 refine ol_step rfl (op_box hS rfl rfl) ?_
 clear hS
 rintro _ w ⟨b2, rfl, hS⟩
 refine ol_pure rfl (op_assign rfl) (ol_nil (pq_then (cw_seq (cw_block ?_))))
 refine cw_loop (fun e w n => ∃ c : Int, e = [(1, .int .i64 c), (2, .pointer (some ⟨b2, 0, none⟩))] ∧ (0 ≤ c ∧ c < cs.length) ∧ FolN cs n c b ∧ SS G w0 G [.blk b2 28 [.slice oc cs.length cc, .slice ot tr.length ct, .int .i64 room]] w) _ _ (by exact ⟨a, rfl, ⟨h0, ha⟩, hf, hS⟩) ((Sub.cons rfl (Sub.cons rfl Sub.nil))) ?_
 clear hS
 rintro e w n ⟨c, rfl, hc, hn, hS⟩
 obtain ⟨p, rfl⟩ := Int.eq_ofNat_of_zero_le hc.1
 have hp : p < cs.length := by omega
 obtain ⟨hoa, hbd, hcells⟩ := h1.cellAt hp
 have hba := boundB_at hp
 have hst := stepF_at hp
 refine cw_seq (cw_seq (cw_region (ol_load rfl (op_loadN agg_28 rfl (by rfl) (fun w hw k u hk => (hw.bcell (i := 0) rfl).trans hk)) hS (ol_pure rfl (op_move rfl) ?_))))
 refine ol_step rfl (op_call_sc hS cf_47 rfl (R08_Bound_c G _ hS.hold _ cs tr room hh0 (p : Int))) ?_
 clear hS
 rintro _ w ⟨rfl, hS⟩
 refine ol_pure rfl (op_move rfl) ?_
 refine ol_split (fun h8 => ?_) (fun h8 => ?_)
 ·
  try simp only [dqT, dqF, dq1, dq2, dq3, dq4, dq5] at h8
  rw [hba] at h8
  have hgo : (cs[p].kind = 1 ∧ cs[p].n ≠ p) ∨ cs[p].kind = 3 := .inl (by simpa using h8)
  refine ol_guard_no rfl rfl rfl rfl (ol_guard_no rfl rfl rfl rfl (ol_guard_no rfl rfl rfl rfl (ol_guard_no rfl rfl rfl rfl (ol_guard_no rfl rfl rfl rfl (ol_guard_no rfl rfl rfl rfl (ol_guard_no rfl rfl rfl rfl (ol_pure rfl (op_pick_t rfl rfl) ?_)))))))
  refine ol_nil (pq_then (cw_cond_t rfl (cw_skip (pq_then (cw_block (cw_region (ol_pure rfl (op_fieldAddr fld_28_0 rfl) ?_)))))))
  refine ol_load rfl (op_load1 one_25 rfl (fun w hw => (hw.bcell (i := 0) rfl).trans rfl)) hS (ol_pure rfl (op_move rfl) (ol_pure rfl (op_indexN sl_25 rfl rfl (by omega) hoa) (ol_pure rfl (op_fieldAddr fld_49_2 rfl) (ol_load rfl (op_load1 one_3 rfl (fun w hw => hw.gcell (hcells 2 _ rfl))) hS (ol_pure rfl (op_assign rfl) (ol_nil (pq_in_normal ?_)))))))
  rcases n with _ | n
  · exact absurd (hn.1.symm.trans hst) (by rw [if_pos hgo]; simp)
  · obtain ⟨c2, hc2, hn2⟩ := hn
    rw [hst, if_pos hgo] at hc2
    obtain rfl : cs[p].n = c2 := by simpa using hc2
    have hrg := leads_range hs hp (q := cs[p].n) (by rw [leads_one hp (by omega)]; simp)
    refine pq_loop _ n (by exact ⟨cs[p].n, rfl, hrg, hn2, hS⟩) (Sub.cons rfl (Sub.cons rfl Sub.nil)) (by omega)
 ·
  try simp only [dqT, dqF, dq1, dq2, dq3, dq4, dq5] at h8
  rw [hba] at h8
  refine ol_guard_pure rfl rfl rfl (op_fieldAddr fld_28_0 rfl) (ol_guard_load rfl rfl rfl (op_load1 one_25 rfl (fun w hw => (hw.bcell (i := 0) rfl).trans rfl)) hS (ol_guard_pure rfl rfl rfl (op_move rfl) (ol_guard_pure rfl rfl rfl (op_indexN sl_25 rfl rfl (by omega) hoa) (ol_guard_pure rfl rfl rfl (op_fieldAddr fld_49_0 rfl) (ol_guard_load rfl rfl rfl (op_load1 one_3 rfl (fun w hw => hw.gcell (hcells 0 _ rfl))) hS (ol_guard_pure rfl rfl rfl (op_eql rfl rfl) (ol_pure rfl (op_pick_f rfl rfl) ?_)))))))
  refine ol_nil (pq_then ?_)
  refine cw_cond rfl (fun h16 => ?_) (fun h16 => ?_)
  ·
   try simp only [dqT, dqF, dq1, dq2, dq3, dq4, dq5] at h16
   have hgo : (cs[p].kind = 1 ∧ cs[p].n ≠ p) ∨ cs[p].kind = 3 := .inr h16
   refine cw_skip (pq_then (cw_block (cw_region (ol_pure rfl (op_fieldAddr fld_28_0 rfl) (ol_load rfl (op_load1 one_25 rfl (fun w hw => (hw.bcell (i := 0) rfl).trans rfl)) hS (ol_pure rfl (op_move rfl) (ol_pure rfl (op_indexN sl_25 rfl rfl (by omega) hoa) ?_)))))))
   refine ol_pure rfl (op_fieldAddr fld_49_2 rfl) (ol_load rfl (op_load1 one_3 rfl (fun w hw => hw.gcell (hcells 2 _ rfl))) hS (ol_pure rfl (op_assign rfl) (ol_nil (pq_in_normal ?_))))
   rcases n with _ | n
   · exact absurd (hn.1.symm.trans hst) (by rw [if_pos hgo]; simp)
   · obtain ⟨c2, hc2, hn2⟩ := hn
     rw [hst, if_pos hgo] at hc2
     obtain rfl : cs[p].n = c2 := by simpa using hc2
     have hrg := leads_range hs hp (q := cs[p].n) (by rw [leads_one hp (by omega)]; simp)
     refine pq_loop _ n (by exact ⟨cs[p].n, rfl, hrg, hn2, hS⟩) (Sub.cons rfl (Sub.cons rfl Sub.nil)) (by omega)
  ·
   try simp only [dqT, dqF, dq1, dq2, dq3, dq4, dq5] at h16
   refine cw_exit (pq_exit (pq_exit (pq_in_exit (pq_then (cw_seq (cw_region (ol_pure rfl (op_move rfl) ?_)))))))
   refine ol_pure rfl (op_assign rfl) (ol_nil (pq_then (cw_ret (ret1 rfl rfl ?_))))
   rcases n with _ | n
   · exact hS.sc_i hn.2
   · obtain ⟨c2, hc2, hn2⟩ := hn
     rw [hst, if_neg (by simp at h8; omega)] at hc2
     cases hc2
end Go.Proofs.Ytnmkffkalnkbbaa.K
