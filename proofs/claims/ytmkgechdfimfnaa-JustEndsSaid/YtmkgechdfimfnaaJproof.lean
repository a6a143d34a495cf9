/-
  The proof of layer just, while it is made: what it reads, what it tells.
  No condition but the premises that each theorem names.
-/
import Derived.Test.YtmkgechdfimfnaaJslices2
namespace Go.Proofs.Ytmkgechdfimfnaa.K
open Go Go.RowKit
set_option linter.unusedVariables false
set_option linter.unusedSimpArgs false

open Pl
/-- A proof that is made: what is told, and what is held. -/
structure PjR (G : GH) (b : Nat) (vT vH : Value) : Prop where
  c4 : gcell G ((⟨b, 0, none⟩ : Addr).add 4) = some vT
  c5 : gcell G ((⟨b, 0, none⟩ : Addr).add 5) = some vH
theorem PjR.mono {G G' : GH} {b : Nat} {vT vH : Value} (h : PjR G b vT vH) (hl : Le G G') : PjR G' b vT vH := ⟨hl.cell h.c4, hl.cell h.c5⟩
abbrev pc (b : Nat) : Value := .pointer (some ⟨b, 0, none⟩)
theorem val_at {m : List Int} {j : Nat} (h : j < m.length) : valI m (j : Int) = m[j] := by simp [valI, h]
structure PH where
  os : Option Addr
  cs : Nat
  oh : Option Addr
  ch : Nat
  ot : Option Addr
  ct : Nat
  ol : Option Addr
  cl : Nat
/-- The blocks of a proof that is made: its own, its steps, its holds, what is told, what is held. -/
def PjS (b : Nat) (va vr : Value) (h : PH) (us : List Value) (k : Nat) (hs m : List Int) (hd : List Bool) : List Ent :=
  [.blk b 67 [va, vr, .slice h.os k h.cs, .slice h.oh hs.length h.ch, .slice h.ot m.length h.ct, .slice h.ol hd.length h.cl],
   .row h.os k h.cs 37 2 us, .row h.oh hs.length h.ch 3 1 (hs.map (Value.int .i64)), .row h.ot m.length h.ct 3 1 (m.map (Value.int .i64)), .row h.ol hd.length h.cl 4 1 (hd.map Value.bool)]
theorem PjS.read {G0 G : GH} {w0 w : World} {M : List Ent} {b : Nat} {va vr : Value} {h : PH} {us : List Value} {k : Nat} {hs m : List Int} {hd : List Bool} (hS : SS G0 w0 G (PjS b va vr h us k hs m hd ++ M) w) (hm : ∀ x ∈ m, 0 ≤ x ∧ x ≤ 2) :
    PjR (fullG w) b (.slice h.ot m.length h.ct) (.slice h.ol hd.length h.cl) ∧ RSl 1 EInt (fullG w) (.slice h.ot m.length h.ct) m ∧ RSl 1 EBool (fullG w) (.slice h.ol hd.length h.cl) hd := by
  unfold PjS at hS
  refine ⟨⟨hS.bcell (i := 0) (k := 4) rfl, hS.bcell (i := 0) (k := 5) rfl⟩, ?_, ?_⟩
  · exact SS.lend (zs := m) [_, _, _] hS (by decide) EInt.mono ((Rows.ints (l := m) fun x hx => by have := hm x hx; omega).mono EInt.mono (fun b o hb => by cases hb)) rfl
  · exact SS.lend (zs := hd) [_, _, _, _] hS (by decide) EBool.mono ((Rows.bools hd).mono EBool.mono (fun b o hb => by cases hb)) rfl

set_option maxRecDepth 100000 in

theorem just_proof_any_1_c (G : GH) (w0 : World) (hG : Holds G w0) (b : Nat) (vT vH : Value) (m : List Int) (hd : List Bool) (hc : PjR G b vT vH) (hTo : RSl 1 EInt G vT m) (hHo : RSl 1 EBool G vH hd) (b2 b3 : Nat) (x tr : Int) (hb2 : gcell G ⟨b2, 0, none⟩ = some (.pointer (some ⟨b, 0, none⟩))) (hb3 : gcell G ⟨b3, 0, none⟩ = some (.int .i64 tr)) (hx : 0 ≤ x ∧ x < m.length) :
   Calls Try.prog 75 #[.int .i64 x, .pointer (some ⟨b2, 0, none⟩), .pointer (some ⟨b3, 0, none⟩)] w0 (Sc w0 (.bool (decide (valI m x = tr)))) := by
 obtain ⟨oT, cT, rfl, hlT, hmT⟩ := hTo.elim
 have hTle := hTo.le
 obtain ⟨j, rfl⟩ := Int.eq_ofNat_of_zero_le hx.1
 have hj : j < m.length := by omega
 obtain ⟨hoT, hcT, _⟩ := hTo.int hj
 refine enter Try.func75 rfl (N := 14) rfl (Nat.le_of_ble_eq_true rfl) ?_
 have hS := SS.init hG
 refine cw_seq ?_
 refine cw_region ?_
 refine ol_pure rfl (op_assign rfl) ?_
 refine ol_nil ?_
 refine pq_then ?_
 refine cw_seq ?_
 refine al_start' hS (hS.take 0) (by kernel_rfl) rfl (fun w hS hT => ?_)
 refine al_load (i := 0) rfl (by kernel_rfl) (by kernel_rfl) (by kernel_rfl) rfl (fun _ _ _ h => h) (by exact op_load1 one_61 rfl (fun w hw => hw.gcell hb2)) rfl hT ?_
 refine al_take (i := 1) rfl (by kernel_rfl) (by kernel_rfl) (by kernel_rfl) rfl (fun _ _ _ h => h) (op_nilCheck rfl) rfl ?_
 refine al_take (i := 2) rfl (by kernel_rfl) (by kernel_rfl) (by kernel_rfl) rfl (fun _ _ _ h => h) (op_fieldAddr fld_67_2 rfl) rfl ?_
 refine al_load (i := 3) rfl (by kernel_rfl) (by kernel_rfl) (by kernel_rfl) rfl (fun _ _ _ h => h) (by exact op_load1 one_28 rfl (fun w hw => hw.gcell hc.c4)) rfl hT ?_
 refine al_take (i := 4) rfl (by kernel_rfl) (by kernel_rfl) (by kernel_rfl) rfl (fun _ _ _ h => h) (op_move rfl) rfl ?_
 refine al_take (i := 5) rfl (by kernel_rfl) (by kernel_rfl) (by kernel_rfl) rfl (fun _ _ _ h => h) (op_indexN sl_28 rfl rfl (by omega) (by assumption)) rfl ?_
 refine al_load (i := 6) rfl (by kernel_rfl) (by kernel_rfl) (by kernel_rfl) rfl (fun _ _ _ h => h) (by exact op_load1 one_3 rfl (fun w hw => hw.gcell hcT)) rfl hT ?_
 refine al_load (i := 7) rfl (by kernel_rfl) (by kernel_rfl) (by kernel_rfl) rfl (fun _ _ _ h => h) (by exact op_load1 one_3 rfl (fun w hw => hw.gcell hb3)) rfl hT ?_
 refine al_take (i := 8) rfl (by kernel_rfl) (by kernel_rfl) (by kernel_rfl) rfl (fun _ _ _ h => h) (op_eql rfl rfl) rfl ?_
 refine al_take (i := 9) rfl (by kernel_rfl) (by kernel_rfl) (by kernel_rfl) rfl (fun _ _ _ h => h) (op_assign rfl) rfl ?_
 refine al_done (by kernel_rfl) ?_
 refine pq_then ?_
 refine cw_ret ?_
 refine ret1 rfl rfl ?_
 exact hS.sc_b (by rw [val_at hj])
set_option maxRecDepth 100000 in

theorem just_proof_all_1_c (G : GH) (w0 : World) (hG : Holds G w0) (b : Nat) (vT vH : Value) (m : List Int) (hd : List Bool) (hc : PjR G b vT vH) (hTo : RSl 1 EInt G vT m) (hHo : RSl 1 EBool G vH hd) (b2 b3 : Nat) (x tr : Int) (hb2 : gcell G ⟨b2, 0, none⟩ = some (.pointer (some ⟨b, 0, none⟩))) (hb3 : gcell G ⟨b3, 0, none⟩ = some (.int .i64 tr)) (hx : 0 ≤ x ∧ x < m.length) :
   Calls Try.prog 72 #[.int .i64 x, .pointer (some ⟨b2, 0, none⟩), .pointer (some ⟨b3, 0, none⟩)] w0 (Sc w0 (.bool (!decide (valI m x = tr)))) := by
 obtain ⟨oT, cT, rfl, hlT, hmT⟩ := hTo.elim
 have hTle := hTo.le
 obtain ⟨j, rfl⟩ := Int.eq_ofNat_of_zero_le hx.1
 have hj : j < m.length := by omega
 obtain ⟨hoT, hcT, _⟩ := hTo.int hj
 refine enter Try.func72 rfl (N := 14) rfl (Nat.le_of_ble_eq_true rfl) ?_
 have hS := SS.init hG
 refine cw_seq ?_
 refine cw_region ?_
 refine ol_pure rfl (op_assign rfl) ?_
 refine ol_nil ?_
 refine pq_then ?_
 refine cw_seq ?_
 refine al_start' hS (hS.take 0) (by kernel_rfl) rfl (fun w hS hT => ?_)
 refine al_load (i := 0) rfl (by kernel_rfl) (by kernel_rfl) (by kernel_rfl) rfl (fun _ _ _ h => h) (by exact op_load1 one_61 rfl (fun w hw => hw.gcell hb2)) rfl hT ?_
 refine al_take (i := 1) rfl (by kernel_rfl) (by kernel_rfl) (by kernel_rfl) rfl (fun _ _ _ h => h) (op_nilCheck rfl) rfl ?_
 refine al_take (i := 2) rfl (by kernel_rfl) (by kernel_rfl) (by kernel_rfl) rfl (fun _ _ _ h => h) (op_fieldAddr fld_67_2 rfl) rfl ?_
 refine al_load (i := 3) rfl (by kernel_rfl) (by kernel_rfl) (by kernel_rfl) rfl (fun _ _ _ h => h) (by exact op_load1 one_28 rfl (fun w hw => hw.gcell hc.c4)) rfl hT ?_
 refine al_take (i := 4) rfl (by kernel_rfl) (by kernel_rfl) (by kernel_rfl) rfl (fun _ _ _ h => h) (op_move rfl) rfl ?_
 refine al_take (i := 5) rfl (by kernel_rfl) (by kernel_rfl) (by kernel_rfl) rfl (fun _ _ _ h => h) (op_indexN sl_28 rfl rfl (by omega) (by assumption)) rfl ?_
 refine al_load (i := 6) rfl (by kernel_rfl) (by kernel_rfl) (by kernel_rfl) rfl (fun _ _ _ h => h) (by exact op_load1 one_3 rfl (fun w hw => hw.gcell hcT)) rfl hT ?_
 refine al_load (i := 7) rfl (by kernel_rfl) (by kernel_rfl) (by kernel_rfl) rfl (fun _ _ _ h => h) (by exact op_load1 one_3 rfl (fun w hw => hw.gcell hb3)) rfl hT ?_
 refine al_take (i := 8) rfl (by kernel_rfl) (by kernel_rfl) (by kernel_rfl) rfl (fun _ _ _ h => h) (op_neq rfl rfl) rfl ?_
 refine al_take (i := 9) rfl (by kernel_rfl) (by kernel_rfl) (by kernel_rfl) rfl (fun _ _ _ h => h) (op_assign rfl) rfl ?_
 refine al_done (by kernel_rfl) ?_
 refine pq_then ?_
 refine cw_ret ?_
 refine ret1 rfl rfl ?_
 exact hS.sc_b (by rw [val_at hj])
set_option maxRecDepth 100000 in

theorem just_Why_1_c (G : GH) (w0 : World) (hG : Holds G w0) (b : Nat) (vT vH : Value) (m : List Int) (hd : List Bool) (hc : PjR G b vT vH) (hTo : RSl 1 EInt G vT m) (hHo : RSl 1 EBool G vH hd) (b2 : Nat) (x : Int) (hb2 : gcell G ⟨b2, 0, none⟩ = some (.pointer (some ⟨b, 0, none⟩))) (hx : 0 ≤ x ∧ x < m.length) :
   Calls Try.prog 36 #[.int .i64 x, .pointer (some ⟨b2, 0, none⟩)] w0 (Sc w0 (.bool (!decide (valI m x = 1)))) := by
 obtain ⟨oT, cT, rfl, hlT, hmT⟩ := hTo.elim
 have hTle := hTo.le
 obtain ⟨j, rfl⟩ := Int.eq_ofNat_of_zero_le hx.1
 have hj : j < m.length := by omega
 obtain ⟨hoT, hcT, _⟩ := hTo.int hj
 refine enter Try.func36 rfl (N := 12) rfl (Nat.le_of_ble_eq_true rfl) ?_
 have hS := SS.init hG
 refine cw_seq ?_
 refine cw_region ?_
 refine ol_pure rfl (op_assign rfl) ?_
 refine ol_nil ?_
 refine pq_then ?_
 refine cw_seq ?_
 refine cw_region ?_
 refine ol_load rfl (op_load1 one_61 rfl (fun w hw => hw.gcell hb2)) hS ?_
 refine ol_pure rfl (op_nilCheck rfl) ?_
 refine ol_pure rfl (op_fieldAddr fld_67_2 rfl) ?_
 refine ol_load rfl (op_load1 one_28 rfl (fun w hw => hw.gcell hc.c4)) hS ?_
 refine ol_pure rfl (op_move rfl) ?_
 refine ol_pure rfl (op_indexN sl_28 rfl rfl (by omega) (by assumption)) ?_
 refine ol_load rfl (op_load1 one_3 rfl (fun w hw => hw.gcell hcT)) hS ?_
 refine ol_pure rfl (op_neq rfl rfl) ?_
 refine ol_pure rfl (op_assign rfl) ?_
 refine ol_nil ?_
 refine pq_then ?_
 refine cw_ret ?_
 refine ret1 rfl rfl ?_
 exact hS.sc_b (by rw [val_at hj])
set_option maxRecDepth 100000 in

theorem just_proof_holds_1_c (G : GH) (w0 : World) (hG : Holds G w0) (b : Nat) (vT vH : Value) (m : List Int) (hd : List Bool) (hc : PjR G b vT vH) (hTo : RSl 1 EInt G vT m) (hHo : RSl 1 EBool G vH hd) (b2 : Nat) (x : Int) (hb2 : gcell G ⟨b2, 0, none⟩ = some (.pointer (some ⟨b, 0, none⟩))) (hx : 0 ≤ x ∧ x < m.length) (hlen : hd.length = m.length) :
   Calls Try.prog 63 #[.int .i64 x, .pointer (some ⟨b2, 0, none⟩)] w0 (Sc w0 (.bool (decide (valI m x = 1) && !hd.getD x.toNat false))) := by
 obtain ⟨oT, cT, rfl, hlT, hmT⟩ := hTo.elim
 have hTle := hTo.le
 obtain ⟨oH, cH, rfl, hlH, hmH⟩ := hHo.elim
 have hHle := hHo.le
 obtain ⟨j, rfl⟩ := Int.eq_ofNat_of_zero_le hx.1
 have hj : j < m.length := by omega
 obtain ⟨hoT, hcT, _⟩ := hTo.int hj
 obtain ⟨hoH, hcH⟩ := hHo.bool (show j < hd.length by omega)
 refine enter Try.func63 rfl (N := 22) rfl (Nat.le_of_ble_eq_true rfl) ?_
 have hS := SS.init hG
 refine cw_seq ?_
 refine cw_region ?_
 refine ol_pure rfl (op_assign rfl) ?_
 refine ol_nil ?_
 refine pq_then ?_
 refine cw_seq ?_
 refine cw_region ?_
 refine ol_load rfl (op_load1 one_61 rfl (fun w hw => hw.gcell hb2)) hS ?_
 refine ol_pure rfl (op_nilCheck rfl) ?_
 refine ol_pure rfl (op_fieldAddr fld_67_2 rfl) ?_
 refine ol_load rfl (op_load1 one_28 rfl (fun w hw => hw.gcell hc.c4)) hS ?_
 refine ol_pure rfl (op_move rfl) ?_
 refine ol_pure rfl (op_indexN sl_28 rfl rfl (by omega) (by assumption)) ?_
 refine ol_load rfl (op_load1 one_3 rfl (fun w hw => hw.gcell hcT)) hS ?_
 refine ol_pure rfl (op_eql rfl rfl) ?_
 refine ol_pure rfl (op_move rfl) ?_
 refine ol_split (fun h12 => ?_) (fun h12 => ?_)
 ·
  skip
  try simp only [decide_eq_true_eq, decide_eq_false_iff_not, Bool.not_eq_true', Bool.not_eq_false', Bool.not_eq_eq_eq_not, Bool.not_true, Bool.not_false] at h12
  refine ol_guard_load rfl rfl rfl (op_load1 one_61 rfl (fun w hw => hw.gcell hb2)) hS ?_
  refine ol_guard_pure rfl rfl rfl (op_nilCheck rfl) ?_
  refine ol_guard_pure rfl rfl rfl (op_fieldAddr fld_67_3 rfl) ?_
  refine ol_guard_load rfl rfl rfl (op_load1 one_49 rfl (fun w hw => hw.gcell hc.c5)) hS ?_
  refine ol_guard_pure rfl rfl rfl (op_move rfl) ?_
  refine ol_guard_pure rfl rfl rfl (op_indexN sl_49 rfl rfl (by omega) (by assumption)) ?_
  refine ol_guard_load rfl rfl rfl (op_load1 one_4 rfl (fun w hw => hw.gcell hcH)) hS ?_
  refine ol_guard_pure rfl rfl rfl (op_not rfl) ?_
  refine ol_pure rfl (op_pick_t rfl rfl) ?_
  refine ol_pure rfl (op_assign rfl) ?_
  refine ol_nil ?_
  refine pq_then ?_
  refine cw_ret ?_
  refine ret1 rfl rfl ?_
  exact hS.sc_b (by rw [val_at hj]; simp [hlen, hj, h12])
 ·
  skip
  try simp only [decide_eq_true_eq, decide_eq_false_iff_not, Bool.not_eq_true', Bool.not_eq_false', Bool.not_eq_eq_eq_not, Bool.not_true, Bool.not_false] at h12
  refine ol_guard_no rfl rfl rfl rfl ?_
  refine ol_guard_no rfl rfl rfl rfl ?_
  refine ol_guard_no rfl rfl rfl rfl ?_
  refine ol_guard_no rfl rfl rfl rfl ?_
  refine ol_guard_no rfl rfl rfl rfl ?_
  refine ol_guard_no rfl rfl rfl rfl ?_
  refine ol_guard_no rfl rfl rfl rfl ?_
  refine ol_guard_no rfl rfl rfl rfl ?_
  refine ol_pure rfl (op_pick_f rfl rfl) ?_
  refine ol_pure rfl (op_assign rfl) ?_
  refine ol_nil ?_
  refine pq_then ?_
  refine cw_ret ?_
  refine ret1 rfl rfl ?_
  exact hS.sc_b (by rw [val_at hj]; simp [h12])
set_option maxRecDepth 100000 in

theorem just_proof_all_c (G : GH) (w0 : World) (hG : Holds G w0) (b : Nat) (vT vH : Value) (m : List Int) (hd : List Bool) (hc : PjR G b vT vH) (hTo : RSl 1 EInt G vT m) (hHo : RSl 1 EBool G vH hd) (v : Value) (l : List Int) (tr : Int) (h1 : RSl 1 EInt G v l) (hl : ∀ x ∈ l, 0 ≤ x ∧ x < m.length) :
   Calls Try.prog 59 #[.pointer (some ⟨b, 0, none⟩), v, .int .i64 tr] w0 (Sc w0 (.bool (areB m l tr))) := by
 refine enter Try.func59 rfl (N := 11) rfl (Nat.le_of_ble_eq_true rfl) ?_
 have hS := SS.init hG
 refine cw_seq ?_
 refine cw_region ?_
 refine ol_step rfl (op_box hS rfl rfl) ?_
 clear hS
 rintro _ w ⟨b3, rfl, hS⟩
 refine ol_step rfl (op_box hS rfl rfl) ?_
 clear hS
 rintro _ w ⟨b5, rfl, hS⟩
 refine ol_pure rfl (op_assign rfl) ?_
 refine ol_nil ?_
 refine pq_then ?_
 refine cw_seq ?_
 refine cw_region ?_
 refine ol_pure rfl (op_move rfl) ?_
 refine ol_pure rfl (op_makeFunc rfl rfl) ?_
 refine ol_step rfl (op_call_sc hS cf_49 rfl (slices_ContainsFunc_c (fullG _) _ (Holds.full _) _ l (h1.mono EInt.mono hS.hold.le_full) (fun a => !decide (valI m a = tr)) 72 [.pointer (some ⟨b3, 0, none⟩), .pointer (some ⟨b5, 0, none⟩)] cf_72 (fun w' hB x hx => just_proof_all_1_c (fullG _) w' ((Holds.full _).below hB) b vT vH m hd (hc.mono hS.hold.le_full) (hTo.mono EInt.mono hS.hold.le_full) (hHo.mono EBool.mono hS.hold.le_full) b3 b5 x tr (hS.bcell0 (i := 1) rfl) (hS.bcell0 (i := 0) rfl) (hl x hx)))) ?_
 clear hS
 rintro _ w ⟨rfl, hS⟩
 refine ol_pure rfl (op_not rfl) ?_
 refine ol_pure rfl (op_assign rfl) ?_
 refine ol_nil ?_
 refine pq_then ?_
 refine cw_ret ?_
 refine ret1 rfl rfl ?_
 exact hS.sc_b (by rw [areB]; simp [List.all_eq_not_any_not])
set_option maxRecDepth 100000 in

theorem just_proof_any_c (G : GH) (w0 : World) (hG : Holds G w0) (b : Nat) (vT vH : Value) (m : List Int) (hd : List Bool) (hc : PjR G b vT vH) (hTo : RSl 1 EInt G vT m) (hHo : RSl 1 EBool G vH hd) (v : Value) (l : List Int) (tr : Int) (h1 : RSl 1 EInt G v l) (hl : ∀ x ∈ l, 0 ≤ x ∧ x < m.length) :
   Calls Try.prog 64 #[.pointer (some ⟨b, 0, none⟩), v, .int .i64 tr] w0 (Sc w0 (.bool (hasB m l tr))) := by
 refine enter Try.func64 rfl (N := 10) rfl (Nat.le_of_ble_eq_true rfl) ?_
 have hS := SS.init hG
 refine cw_seq ?_
 refine cw_region ?_
 refine ol_step rfl (op_box hS rfl rfl) ?_
 clear hS
 rintro _ w ⟨b3, rfl, hS⟩
 refine ol_step rfl (op_box hS rfl rfl) ?_
 clear hS
 rintro _ w ⟨b5, rfl, hS⟩
 refine ol_pure rfl (op_assign rfl) ?_
 refine ol_nil ?_
 refine pq_then ?_
 refine cw_seq ?_
 refine cw_region ?_
 refine ol_pure rfl (op_move rfl) ?_
 refine ol_pure rfl (op_makeFunc rfl rfl) ?_
 refine ol_step rfl (op_call_sc hS cf_49 rfl (slices_ContainsFunc_c (fullG _) _ (Holds.full _) _ l (h1.mono EInt.mono hS.hold.le_full) (fun a => decide (valI m a = tr)) 75 [.pointer (some ⟨b3, 0, none⟩), .pointer (some ⟨b5, 0, none⟩)] cf_75 (fun w' hB x hx => just_proof_any_1_c (fullG _) w' ((Holds.full _).below hB) b vT vH m hd (hc.mono hS.hold.le_full) (hTo.mono EInt.mono hS.hold.le_full) (hHo.mono EBool.mono hS.hold.le_full) b3 b5 x tr (hS.bcell0 (i := 1) rfl) (hS.bcell0 (i := 0) rfl) (hl x hx)))) ?_
 clear hS
 rintro _ w ⟨rfl, hS⟩
 refine ol_pure rfl (op_assign rfl) ?_
 refine ol_nil ?_
 refine pq_then ?_
 refine cw_ret ?_
 refine ret1 rfl rfl ?_
 exact hS.sc_b rfl
set_option maxRecDepth 100000 in

theorem just_proof_so_c (G : GH) (w0 : World) (hG : Holds G w0) (b : Nat) (vT vH : Value) (m : List Int) (hd : List Bool) (hc : PjR G b vT vH) (hTo : RSl 1 EInt G vT m) (hHo : RSl 1 EBool G vH hd) (r : Rule) (p q : Value) (h1 : RSl 1 EInt G p r.pos) (h2 : RSl 1 EInt G q r.neg) (hr : RuleOk m.length r)  :
   Calls Try.prog 34 #[.pointer (some ⟨b, 0, none⟩), .agg #[.int .i64 r.head, p, q]] w0 (Sc w0 (.bool (decide (valI m r.head = 1) && firesB m r))) := by
 obtain ⟨oT, cT, rfl, hlT, hmT⟩ := hTo.elim
 have hTle := hTo.le
 obtain ⟨hh, hhe⟩ := Int.eq_ofNat_of_zero_le hr.1.1
 have hhn : hh < m.length := by have := hr.1.2; omega
 obtain ⟨hoT, hcT, _⟩ := hTo.int hhn
 have hvh : valI m r.head = m[hh] := by rw [hhe]; exact val_at hhn
 refine enter Try.func34 rfl (N := 26) rfl (Nat.le_of_ble_eq_true rfl) ?_
 have hS := SS.init hG
 refine cw_seq ?_
 refine cw_region ?_
 refine ol_step rfl (op_box hS rfl rfl) ?_
 clear hS
 rintro _ w ⟨b3, rfl, hS⟩
 refine ol_pure rfl (op_assign rfl) ?_
 refine ol_nil ?_
 refine pq_then ?_
 refine cw_seq ?_
 refine al_start' hS (hS.take 1) (by kernel_rfl) rfl (fun w hS hT => ?_)
 refine al_take (i := 0) rfl (by kernel_rfl) (by kernel_rfl) (by kernel_rfl) rfl (fun _ _ _ h => h) (op_move rfl) rfl ?_
 refine al_take (i := 1) rfl (by kernel_rfl) (by kernel_rfl) (by kernel_rfl) rfl (fun _ _ _ h => h) (op_nilCheck rfl) rfl ?_
 refine al_take (i := 2) rfl (by kernel_rfl) (by kernel_rfl) (by kernel_rfl) rfl (fun _ _ _ h => h) (op_fieldAddr fld_67_2 rfl) rfl ?_
 refine al_load (i := 3) rfl (by kernel_rfl) (by kernel_rfl) (by kernel_rfl) rfl (fun _ _ _ h => h) (by exact op_load1 one_28 rfl (fun w hw => hw.gcell hc.c4)) rfl hT ?_
 refine al_take (i := 4) rfl (by kernel_rfl) (by kernel_rfl) (by kernel_rfl) rfl (fun _ _ _ h => h) (op_fieldAddr fld_30_0 rfl) rfl ?_
 refine al_load (i := 5) rfl (by kernel_rfl) (by kernel_rfl) (by kernel_rfl) rfl (fun _ _ _ h => h) (by exact op_load1 one_3 rfl (fun w hw => (hw.bcell (i := 0) rfl).trans rfl)) rfl hT ?_
 refine al_take (i := 6) rfl (by kernel_rfl) (by kernel_rfl) (by kernel_rfl) rfl (fun _ _ _ h => h) (op_indexAddr sl_28 rfl rfl (by omega) (by omega) hoT) rfl ?_
 refine al_load (i := 7) rfl (by kernel_rfl) (by kernel_rfl) (by kernel_rfl) rfl (fun _ _ _ h => h) (by exact op_load1 one_3 rfl (fun w hw => hw.gcell (by rw [hhe]; exact hcT))) rfl hT ?_
 refine al_take (i := 8) rfl (by kernel_rfl) (by kernel_rfl) (by kernel_rfl) rfl (fun _ _ _ h => h) (op_eql rfl rfl) rfl ?_
 refine al_take (i := 9) rfl (by kernel_rfl) (by kernel_rfl) (by kernel_rfl) rfl (fun _ _ _ h => h) (op_move rfl) rfl ?_
 refine al_split (fun h14 => ?_) (fun h14 => ?_)
 ·
  skip
  try simp only [decide_eq_true_eq, decide_eq_false_iff_not, Bool.not_eq_true', Bool.not_eq_false', Bool.not_eq_eq_eq_not, Bool.not_true, Bool.not_false] at h14
  refine al_gtake (i := 10) rfl (by kernel_rfl) (by kernel_rfl) (by kernel_rfl) rfl rfl rfl (fun _ _ _ h => h) (op_move rfl) rfl ?_
  refine al_gtake (i := 11) rfl (by kernel_rfl) (by kernel_rfl) (by kernel_rfl) rfl rfl rfl (fun _ _ _ h => h) (op_fieldAddr fld_30_1 rfl) rfl ?_
  refine al_gload (i := 12) rfl (by kernel_rfl) (by kernel_rfl) (by kernel_rfl) rfl rfl rfl (fun _ _ _ h => h) (by exact op_load1 one_28 rfl (fun w hw => (hw.bcell (i := 0) rfl).trans rfl)) rfl hT ?_
  refine al_gstep (i := 13) rfl (by kernel_rfl) rfl rfl rfl (op_call_sc hS cf_59 rfl (just_proof_all_c G _ hS.hold b _ vH m hd hc hTo hHo _ r.pos 2 h1 hr.2.1)) ?_
  clear hS
  rintro _ w ⟨rfl, hS⟩
  have hT := hT.back hS (by first | exact Le.refl _ | assumption) (fun x hx => by try simp only [List.take_succ_cons, List.take_zero, List.mem_cons, List.not_mem_nil, or_false] at hx; (rcases hx with rfl) <;> simp)
  refine ⟨fun _ _ => hT, ?_⟩
  refine al_take (i := 14) rfl (by kernel_rfl) (by kernel_rfl) (by kernel_rfl) rfl (fun _ _ _ h => h) (op_pick_t rfl rfl) rfl ?_
  refine al_take (i := 15) rfl (by kernel_rfl) (by kernel_rfl) (by kernel_rfl) rfl (fun _ _ _ h => h) (op_move rfl) rfl ?_
  refine al_split (fun h20 => ?_) (fun h20 => ?_)
  ·
   skip
   try simp only [decide_eq_true_eq, decide_eq_false_iff_not, Bool.not_eq_true', Bool.not_eq_false', Bool.not_eq_eq_eq_not, Bool.not_true, Bool.not_false] at h20
   refine al_gtake (i := 16) rfl (by kernel_rfl) (by kernel_rfl) (by kernel_rfl) rfl rfl rfl (fun _ _ _ h => h) (op_move rfl) rfl ?_
   refine al_gtake (i := 17) rfl (by kernel_rfl) (by kernel_rfl) (by kernel_rfl) rfl rfl rfl (fun _ _ _ h => h) (op_fieldAddr fld_30_2 rfl) rfl ?_
   refine al_gload (i := 18) rfl (by kernel_rfl) (by kernel_rfl) (by kernel_rfl) rfl rfl rfl (fun _ _ _ h => h) (by exact op_load1 one_28 rfl (fun w hw => (hw.bcell (i := 0) rfl).trans rfl)) rfl hT ?_
   refine al_gstep (i := 19) rfl (by kernel_rfl) rfl rfl rfl (op_call_sc hS cf_59 rfl (just_proof_all_c G _ hS.hold b _ vH m hd hc hTo hHo _ r.neg 0 h2 hr.2.2)) ?_
   clear hS
   rintro _ w ⟨rfl, hS⟩
   have hT := hT.back hS (by first | exact Le.refl _ | assumption) (fun x hx => by try simp only [List.take_succ_cons, List.take_zero, List.mem_cons, List.not_mem_nil, or_false] at hx; (rcases hx with rfl) <;> simp)
   refine ⟨fun _ _ => hT, ?_⟩
   refine al_take (i := 20) rfl (by kernel_rfl) (by kernel_rfl) (by kernel_rfl) rfl (fun _ _ _ h => h) (op_pick_t rfl rfl) rfl ?_
   refine al_take (i := 21) rfl (by kernel_rfl) (by kernel_rfl) (by kernel_rfl) rfl (fun _ _ _ h => h) (op_assign rfl) rfl ?_
   refine al_done (by kernel_rfl) ?_
   refine pq_then ?_
   refine cw_ret ?_
   refine ret1 rfl rfl ?_
   exact hS.sc_b (by rw [hvh, firesB]; simp_all)
  ·
   skip
   try simp only [decide_eq_true_eq, decide_eq_false_iff_not, Bool.not_eq_true', Bool.not_eq_false', Bool.not_eq_eq_eq_not, Bool.not_true, Bool.not_false] at h20
   refine al_gskip (i := 16) rfl (by kernel_rfl) (by kernel_rfl) (by kernel_rfl) rfl rfl rfl rfl (fun _ _ _ h => h) (fun _ => hT) ?_
   refine al_gskip (i := 17) rfl (by kernel_rfl) (by kernel_rfl) (by kernel_rfl) rfl rfl rfl rfl (fun _ _ _ h => h) (fun _ => hT) ?_
   refine al_gskip (i := 18) rfl (by kernel_rfl) (by kernel_rfl) (by kernel_rfl) rfl rfl rfl rfl (fun _ _ _ h => h) (fun _ => hT) ?_
   refine al_gskip (i := 19) rfl (by kernel_rfl) (by kernel_rfl) (by kernel_rfl) rfl rfl rfl rfl (fun _ _ _ h => h) (fun _ => hT) ?_
   refine al_take (i := 20) rfl (by kernel_rfl) (by kernel_rfl) (by kernel_rfl) rfl (fun _ _ _ h => h) (op_pick_f rfl rfl) rfl ?_
   refine al_take (i := 21) rfl (by kernel_rfl) (by kernel_rfl) (by kernel_rfl) rfl (fun _ _ _ h => h) (op_assign rfl) rfl ?_
   refine al_done (by kernel_rfl) ?_
   refine pq_then ?_
   refine cw_ret ?_
   refine ret1 rfl rfl ?_
   exact hS.sc_b (by rw [hvh, firesB]; simp_all)
 ·
  skip
  try simp only [decide_eq_true_eq, decide_eq_false_iff_not, Bool.not_eq_true', Bool.not_eq_false', Bool.not_eq_eq_eq_not, Bool.not_true, Bool.not_false] at h14
  refine al_gskip (i := 10) rfl (by kernel_rfl) (by kernel_rfl) (by kernel_rfl) rfl rfl rfl rfl (fun _ _ _ h => h) (fun _ => hT) ?_
  refine al_gskip (i := 11) rfl (by kernel_rfl) (by kernel_rfl) (by kernel_rfl) rfl rfl rfl rfl (fun _ _ _ h => h) (fun _ => hT) ?_
  refine al_gskip (i := 12) rfl (by kernel_rfl) (by kernel_rfl) (by kernel_rfl) rfl rfl rfl rfl (fun _ _ _ h => h) (fun _ => hT) ?_
  refine al_gskip (i := 13) rfl (by kernel_rfl) (by kernel_rfl) (by kernel_rfl) rfl rfl rfl rfl (fun _ _ _ h => h) (fun _ => hT) ?_
  refine al_take (i := 14) rfl (by kernel_rfl) (by kernel_rfl) (by kernel_rfl) rfl (fun _ _ _ h => h) (op_pick_f rfl rfl) rfl ?_
  refine al_take (i := 15) rfl (by kernel_rfl) (by kernel_rfl) (by kernel_rfl) rfl (fun _ _ _ h => h) (op_move rfl) rfl ?_
  refine al_gskip (i := 16) rfl (by kernel_rfl) (by kernel_rfl) (by kernel_rfl) rfl rfl rfl rfl (fun _ _ _ h => h) (fun _ => hT) ?_
  refine al_gskip (i := 17) rfl (by kernel_rfl) (by kernel_rfl) (by kernel_rfl) rfl rfl rfl rfl (fun _ _ _ h => h) (fun _ => hT) ?_
  refine al_gskip (i := 18) rfl (by kernel_rfl) (by kernel_rfl) (by kernel_rfl) rfl rfl rfl rfl (fun _ _ _ h => h) (fun _ => hT) ?_
  refine al_gskip (i := 19) rfl (by kernel_rfl) (by kernel_rfl) (by kernel_rfl) rfl rfl rfl rfl (fun _ _ _ h => h) (fun _ => hT) ?_
  refine al_take (i := 20) rfl (by kernel_rfl) (by kernel_rfl) (by kernel_rfl) rfl (fun _ _ _ h => h) (op_pick_f rfl rfl) rfl ?_
  refine al_take (i := 21) rfl (by kernel_rfl) (by kernel_rfl) (by kernel_rfl) rfl (fun _ _ _ h => h) (op_assign rfl) rfl ?_
  refine al_done (by kernel_rfl) ?_
  refine pq_then ?_
  refine cw_ret ?_
  refine ret1 rfl rfl ?_
  exact hS.sc_b (by rw [hvh, firesB]; simp_all)
set_option maxRecDepth 100000 in

theorem just_proof_holds_c (G : GH) (w0 : World) (hG : Holds G w0) (b : Nat) (vT vH : Value) (m : List Int) (hd : List Bool) (hc : PjR G b vT vH) (hTo : RSl 1 EInt G vT m) (hHo : RSl 1 EBool G vH hd) (r : Rule) (p q : Value) (h1 : RSl 1 EInt G p r.pos) (h2 : RSl 1 EInt G q r.neg) (hr : RuleOk m.length r) (hlen : hd.length = m.length) :
   Calls Try.prog 40 #[.pointer (some ⟨b, 0, none⟩), .agg #[.int .i64 r.head, p, q]] w0 (Sc w0 (.bool (supD m hd r))) := by
 refine enter Try.func40 rfl (N := 32) rfl (Nat.le_of_ble_eq_true rfl) ?_
 have hS := SS.init hG
 refine cw_seq ?_
 refine cw_region ?_
 refine ol_step rfl (op_box hS rfl rfl) ?_
 clear hS
 rintro _ w ⟨b2, rfl, hS⟩
 refine ol_step rfl (op_box hS rfl rfl) ?_
 clear hS
 rintro _ w ⟨b3, rfl, hS⟩
 refine ol_pure rfl (op_assign rfl) ?_
 refine ol_nil ?_
 refine pq_then ?_
 refine cw_seq ?_
 refine cw_region ?_
 refine ol_pure rfl (op_makeFunc rfl rfl) ?_
 refine ol_pure rfl (op_assign rfl) ?_
 refine ol_nil ?_
 refine pq_then ?_
 refine cw_seq ?_
 refine cw_region ?_
 refine ol_pure rfl (op_move rfl) ?_
 refine ol_pure rfl (op_fieldAddr fld_30_0 rfl) ?_
 refine ol_load rfl (op_load1 one_3 rfl (fun w hw => (hw.bcell (i := 0) rfl).trans rfl)) hS ?_
 refine ol_step rfl (op_callv_sc hS cf_63 rfl rfl (just_proof_holds_1_c (fullG _) _ (Holds.full _) b vT vH m hd (hc.mono hS.hold.le_full) (hTo.mono EInt.mono hS.hold.le_full) (hHo.mono EBool.mono hS.hold.le_full) b2 _ (hS.bcell0 (i := 1) rfl) hr.1 hlen)) ?_
 clear hS
 rintro _ w ⟨rfl, hS⟩
 refine ol_pure rfl (op_move rfl) ?_
 refine ol_split (fun h11 => ?_) (fun h11 => ?_)
 ·
  skip
  try simp only [decide_eq_true_eq, decide_eq_false_iff_not, Bool.not_eq_true', Bool.not_eq_false', Bool.not_eq_eq_eq_not, Bool.not_true, Bool.not_false] at h11
  refine ol_guard_load rfl rfl rfl (op_load1 one_61 rfl (fun w hw => (hw.bcell0 (i := 1) rfl).trans rfl)) hS ?_
  refine ol_guard_pure rfl rfl rfl (op_fieldAddr fld_30_1 rfl) ?_
  refine ol_guard_load rfl rfl rfl (op_load1 one_28 rfl (fun w hw => (hw.bcell (i := 0) rfl).trans rfl)) hS ?_
  refine ol_guard_step rfl rfl rfl (op_call_sc hS cf_64 rfl (just_proof_any_c G _ hS.hold b vT vH m hd hc hTo hHo _ r.pos 0 h1 hr.2.1)) ?_
  clear hS
  rintro _ w ⟨rfl, hS⟩
  refine ol_guard_pure rfl rfl rfl (op_not rfl) ?_
  refine ol_pure rfl (op_pick_t rfl rfl) ?_
  refine ol_pure rfl (op_move rfl) ?_
  refine ol_split (fun h18 => ?_) (fun h18 => ?_)
  ·
   skip
   try simp only [decide_eq_true_eq, decide_eq_false_iff_not, Bool.not_eq_true', Bool.not_eq_false', Bool.not_eq_eq_eq_not, Bool.not_true, Bool.not_false] at h18
   refine ol_guard_load rfl rfl rfl (op_load1 one_61 rfl (fun w hw => (hw.bcell0 (i := 1) rfl).trans rfl)) hS ?_
   refine ol_guard_pure rfl rfl rfl (op_fieldAddr fld_30_2 rfl) ?_
   refine ol_guard_load rfl rfl rfl (op_load1 one_28 rfl (fun w hw => (hw.bcell (i := 0) rfl).trans rfl)) hS ?_
   refine ol_guard_step rfl rfl rfl (op_call_sc hS cf_64 rfl (just_proof_any_c G _ hS.hold b vT vH m hd hc hTo hHo _ r.neg 2 h2 hr.2.2)) ?_
   clear hS
   rintro _ w ⟨rfl, hS⟩
   refine ol_guard_pure rfl rfl rfl (op_not rfl) ?_
   refine ol_pure rfl (op_pick_t rfl rfl) ?_
   refine ol_pure rfl (op_move rfl) ?_
   refine ol_split (fun h25 => ?_) (fun h25 => ?_)
   ·
    skip
    try simp only [decide_eq_true_eq, decide_eq_false_iff_not, Bool.not_eq_true', Bool.not_eq_false', Bool.not_eq_eq_eq_not, Bool.not_true, Bool.not_false] at h25
    refine ol_guard_pure rfl rfl rfl (op_fieldAddr fld_30_1 rfl) ?_
    refine ol_guard_load rfl rfl rfl (op_load1 one_28 rfl (fun w hw => (hw.bcell (i := 0) rfl).trans rfl)) hS ?_
    refine ol_guard_pure rfl rfl rfl (op_move rfl) ?_
    refine ol_guard_step rfl rfl rfl (op_call_sc hS cf_49 rfl (slices_ContainsFunc_c (fullG _) _ (Holds.full _) _ r.pos (h1.mono EInt.mono hS.hold.le_full) (fun a => decide (valI m a = 1) && !hd.getD a.toNat false) 63 [.pointer (some ⟨b2, 0, none⟩)] cf_63 (fun w' hB x hx => just_proof_holds_1_c (fullG _) w' ((Holds.full _).below hB) b vT vH m hd (hc.mono hS.hold.le_full) (hTo.mono EInt.mono hS.hold.le_full) (hHo.mono EBool.mono hS.hold.le_full) b2 x (hS.bcell0 (i := 1) rfl) (hr.2.1 x hx) hlen))) ?_
    clear hS
    rintro _ w ⟨rfl, hS⟩
    refine ol_guard_pure rfl rfl rfl (op_not rfl) ?_
    refine ol_pure rfl (op_pick_t rfl rfl) ?_
    refine ol_pure rfl (op_assign rfl) ?_
    refine ol_nil ?_
    refine pq_then ?_
    refine cw_ret ?_
    refine ret1 rfl rfl ?_
    exact hS.sc_b (by rw [supD]; simp_all)
   ·
    skip
    try simp only [decide_eq_true_eq, decide_eq_false_iff_not, Bool.not_eq_true', Bool.not_eq_false', Bool.not_eq_eq_eq_not, Bool.not_true, Bool.not_false] at h25
    refine ol_guard_no rfl rfl rfl rfl ?_
    refine ol_guard_no rfl rfl rfl rfl ?_
    refine ol_guard_no rfl rfl rfl rfl ?_
    refine ol_guard_no rfl rfl rfl rfl ?_
    refine ol_guard_no rfl rfl rfl rfl ?_
    refine ol_pure rfl (op_pick_f rfl rfl) ?_
    refine ol_pure rfl (op_assign rfl) ?_
    refine ol_nil ?_
    refine pq_then ?_
    refine cw_ret ?_
    refine ret1 rfl rfl ?_
    exact hS.sc_b (by rw [supD]; simp_all)
  ·
   skip
   try simp only [decide_eq_true_eq, decide_eq_false_iff_not, Bool.not_eq_true', Bool.not_eq_false', Bool.not_eq_eq_eq_not, Bool.not_true, Bool.not_false] at h18
   refine ol_guard_no rfl rfl rfl rfl ?_
   refine ol_guard_no rfl rfl rfl rfl ?_
   refine ol_guard_no rfl rfl rfl rfl ?_
   refine ol_guard_no rfl rfl rfl rfl ?_
   refine ol_guard_no rfl rfl rfl rfl ?_
   refine ol_pure rfl (op_pick_f rfl rfl) ?_
   refine ol_pure rfl (op_move rfl) ?_
   refine ol_guard_no rfl rfl rfl rfl ?_
   refine ol_guard_no rfl rfl rfl rfl ?_
   refine ol_guard_no rfl rfl rfl rfl ?_
   refine ol_guard_no rfl rfl rfl rfl ?_
   refine ol_guard_no rfl rfl rfl rfl ?_
   refine ol_pure rfl (op_pick_f rfl rfl) ?_
   refine ol_pure rfl (op_assign rfl) ?_
   refine ol_nil ?_
   refine pq_then ?_
   refine cw_ret ?_
   refine ret1 rfl rfl ?_
   exact hS.sc_b (by rw [supD]; simp_all)
 ·
  skip
  try simp only [decide_eq_true_eq, decide_eq_false_iff_not, Bool.not_eq_true', Bool.not_eq_false', Bool.not_eq_eq_eq_not, Bool.not_true, Bool.not_false] at h11
  refine ol_guard_no rfl rfl rfl rfl ?_
  refine ol_guard_no rfl rfl rfl rfl ?_
  refine ol_guard_no rfl rfl rfl rfl ?_
  refine ol_guard_no rfl rfl rfl rfl ?_
  refine ol_guard_no rfl rfl rfl rfl ?_
  refine ol_pure rfl (op_pick_f rfl rfl) ?_
  refine ol_pure rfl (op_move rfl) ?_
  refine ol_guard_no rfl rfl rfl rfl ?_
  refine ol_guard_no rfl rfl rfl rfl ?_
  refine ol_guard_no rfl rfl rfl rfl ?_
  refine ol_guard_no rfl rfl rfl rfl ?_
  refine ol_guard_no rfl rfl rfl rfl ?_
  refine ol_pure rfl (op_pick_f rfl rfl) ?_
  refine ol_pure rfl (op_move rfl) ?_
  refine ol_guard_no rfl rfl rfl rfl ?_
  refine ol_guard_no rfl rfl rfl rfl ?_
  refine ol_guard_no rfl rfl rfl rfl ?_
  refine ol_guard_no rfl rfl rfl rfl ?_
  refine ol_guard_no rfl rfl rfl rfl ?_
  refine ol_pure rfl (op_pick_f rfl rfl) ?_
  refine ol_pure rfl (op_assign rfl) ?_
  refine ol_nil ?_
  refine pq_then ?_
  refine cw_ret ?_
  refine ret1 rfl rfl ?_
  exact hS.sc_b (by rw [supD]; simp_all)
set_option maxRecDepth 100000 in
set_option maxHeartbeats 400000 in

theorem just_made_c {G0 G : GH} {w0 w : World} {M : List Ent} {va vr : Value} {α : Type} {E : ER α} (atoms : List α) (h1 : RSl 1 E G va atoms) (hn : atoms.length ≤ 100000) (hS : SS G0 w0 G M w) :
   Calls Try.prog 32 #[.agg #[va, vr]] w (fun en w' => ∃ v, en = .returned v ∧ ∃ X h, v = .pointer (some ⟨X, 0, none⟩) ∧ SS G0 w0 G (PjS X va vr h [] 0 [] (startI atoms.length) (List.replicate atoms.length false) ++ M) w') := by
 obtain ⟨oA, cA, rfl, hlA, hmA⟩ := h1.elim
 refine enter Try.func32 rfl (N := 27) rfl (Nat.le_of_ble_eq_true rfl) ?_
 refine cw_seq ?_
 refine cw_region ?_
 refine ol_step rfl (op_box hS rfl rfl) ?_
 clear hS
 rintro _ w ⟨b1, rfl, hS⟩
 refine ol_pure rfl (op_assign rfl) ?_
 refine ol_nil ?_
 refine pq_then ?_
 refine cw_seq ?_
 refine al_start' hS (hS.take 1) (by kernel_rfl) rfl (fun w hS hT => ?_)
 refine al_load (i := 0) rfl (by kernel_rfl) (by kernel_rfl) (by kernel_rfl) rfl (fun _ _ _ h => h) (by exact op_loadN agg_26 rfl (by rfl) (fun w hw k u hk => (hw.bcell (i := 0) rfl).trans hk)) rfl hT ?_
 refine al_take (i := 1) rfl (by kernel_rfl) (by kernel_rfl) (by kernel_rfl) rfl (fun _ _ _ h => h) (op_fieldAddr fld_26_0 rfl) rfl ?_
 refine al_load (i := 2) rfl (by kernel_rfl) (by kernel_rfl) (by kernel_rfl) rfl (fun _ _ _ h => h) (by exact op_load1 one_24 rfl (fun w hw => (hw.bcell (i := 0) rfl).trans rfl)) rfl hT ?_
 refine al_take (i := 3) rfl (by kernel_rfl) (by kernel_rfl) (by kernel_rfl) rfl (fun _ _ _ h => h) (op_len sl_24 rfl rfl) rfl ?_
 refine al_step (i := 4) rfl (by kernel_rfl) rfl (op_makeSlice (n := atoms.length) hS sl_49 el_4 rfl rfl rfl (by omega) (by unfold maxLen; omega)) ?_
 clear hS
 rintro _ w ⟨held, rfl, hS⟩
 have hT := hT.back hS (by first | exact Le.refl _ | assumption) (fun x hx => by try simp only [List.take_succ_cons, List.take_zero, List.mem_cons, List.not_mem_nil, or_false] at hx; (rcases hx with rfl) <;> simp)
 refine ⟨fun _ _ => hT, ?_⟩
 refine al_take (i := 5) rfl (by kernel_rfl) (by kernel_rfl) (by kernel_rfl) rfl (fun _ _ _ h => h) (op_build (is := [0, 3]) (xs := [.tmp 4, .tmp 8]) (v := .agg #[.slice oA atoms.length cA, vr, .slice none 0 0, .slice none 0 0, .slice none 0 0, .slice held atoms.length atoms.length]) rfl rfl (fun w => by kernel_rfl)) rfl ?_
 refine al_step (i := 6) rfl (by kernel_rfl) rfl (op_box hS rfl rfl) ?_
 clear hS
 rintro _ w ⟨X, rfl, hS⟩
 have hT := hT.back hS (by first | exact Le.refl _ | assumption) (fun x hx => by try simp only [List.take_succ_cons, List.take_zero, List.mem_cons, List.not_mem_nil, or_false] at hx; (rcases hx with rfl) <;> simp)
 refine ⟨fun _ _ => hT, ?_⟩
 refine al_take (i := 7) rfl (by kernel_rfl) (by kernel_rfl) (by kernel_rfl) rfl (fun _ _ _ h => h) (op_assign rfl) rfl ?_
 refine al_done (by kernel_rfl) ?_
 refine pq_then ?_
 refine cw_seq ?_
 refine cw_seq ?_
 refine cw_region ?_
 refine ol_pure rfl (op_fieldAddr fld_26_0 rfl) ?_
 refine ol_load rfl (op_load1 one_24 rfl (fun w hw => (hw.bcell (i := 2) rfl).trans rfl)) hS ?_
 refine ol_pure rfl (op_len sl_24 rfl rfl) ?_
 refine ol_pure rfl (op_move rfl) ?_
 refine ol_nil ?_
 refine pq_then ?_
 refine cw_block ?_
 refine cw_loop (fun e w n => ∃ k oT cT, e = [(3, .pointer (some ⟨X, 0, none⟩)), (13, .int .i64 (atoms.length : Nat)), (14, .int .i64 (k : Nat))] ∧ k ≤ atoms.length ∧ n = atoms.length - k ∧ SS G0 w0 G (.row oT k cT 3 1 ((startI k).map (Value.int .i64)) :: .blk X 67 [.slice oA atoms.length cA, vr, .slice none 0 0, .slice none 0 0, .slice oT k cT, .slice held atoms.length atoms.length] :: .row held atoms.length atoms.length 4 1 (List.replicate atoms.length (.bool false)) :: .blk b1 26 [.slice oA atoms.length cA, vr] :: M) w) _ _ (by exact ⟨0, none, 0, rfl, Nat.zero_le _, rfl, hS.nil 3 1⟩) ((Sub.cons rfl (Sub.cons rfl (Sub.cons rfl Sub.nil)))) ?_
 clear hS
 rintro e w n ⟨k, oT, cT, rfl, hk, rfl, hS⟩
 refine cw_seq ?_
 refine cw_region ?_
 refine ol_pure rfl (op_lss rfl rfl) ?_
 refine ol_nil ?_
 refine pq_then ?_
 refine cw_seq ?_
 refine cw_cond rfl (fun h15 => ?_) (fun h15 => ?_)
 ·
  skip
  try simp only [decide_eq_true_eq, decide_eq_false_iff_not, Bool.not_eq_true', Bool.not_eq_false', Bool.not_eq_eq_eq_not, Bool.not_true, Bool.not_false] at h15
  have hlt : k < atoms.length := by omega
  refine cw_skip ?_
  refine pq_then ?_
  refine cw_seq ?_
  refine cw_block ?_
  refine cw_region ?_
  refine ol_pure rfl (op_move rfl) ?_
  refine ol_pure rfl (op_move rfl) ?_
  refine ol_pure rfl (op_nilCheck rfl) ?_
  refine ol_pure rfl (op_fieldAddr fld_67_2 rfl) ?_
  refine ol_load rfl (op_load1 one_28 rfl (fun w hw => (hw.bcell (i := 1) rfl).trans rfl)) hS ?_
  refine ol_step rfl (op_buildSlice (el := 3) (is := [0]) (xs := [.const (.int .i64 (1))]) (sz := 1) (cs := [.int .i64 1]) hS rfl rfl (fun w => by kernel_rfl) rfl (by decide)) ?_
  clear hS
  rintro _ w ⟨s21, rfl, hS⟩
  refine ol_step rfl (op_append (j := 1) hS sl_28 el_3 rfl rfl rfl rfl rfl rfl (by decide) (hS.news (j := 0) rfl) (by simp [Value.oneCell']) (by omega) (by unfold maxLen; omega)) ?_
  clear hS
  rintro _ w ⟨truthn, c_truthn, rfl, hS⟩; (try simp only [List.nil_append, List.cons_append, List.set] at hS); replace hS := SS.drop [] hS; (try simp only [List.nil_append, List.cons_append] at hS)
  refine ol_pure rfl (op_nilCheck rfl) ?_
  refine ol_pure rfl (op_fieldAddr fld_67_2 rfl) ?_
  refine ol_step0  (op_storeB (j := 1) (k := 4) hS sz_28 rfl rfl rfl rfl (by simp)) ?_
  clear hS
  rintro _ w hS; (try simp only [List.nil_append, List.cons_append, List.set] at hS)
  refine ol_nil ?_
  refine pq_in_normal ?_
  refine pq_then ?_
  refine cw_region ?_
  refine ol_pure rfl (op_add rfl rfl (by omega) (by omega)) ?_
  refine ol_pure rfl (op_move rfl) ?_
  refine ol_nil ?_
  refine pq_loop _ _ (by exact ⟨k + 1, truthn, c_truthn, rfl, by omega, rfl, by rw [show (startI (k + 1)).map (Value.int .i64) = (startI k).map (Value.int .i64) ++ [.int .i64 1] from by simp [startI, List.replicate_succ']]; exact hS⟩) ((Sub.cons rfl (Sub.cons rfl (Sub.cons rfl Sub.nil)))) (by omega)
 ·
  skip
  try simp only [decide_eq_true_eq, decide_eq_false_iff_not, Bool.not_eq_true', Bool.not_eq_false', Bool.not_eq_eq_eq_not, Bool.not_true, Bool.not_false] at h15
  refine cw_exit ?_
  refine pq_exit ?_
  refine pq_exit ?_
  refine pq_in_exit ?_
  refine pq_then ?_
  refine cw_seq ?_
  refine cw_region ?_
  refine ol_pure rfl (op_move rfl) ?_
  refine ol_pure rfl (op_assign rfl) ?_
  refine ol_nil ?_
  refine pq_then ?_
  refine cw_ret ?_
  refine ret1 rfl rfl ?_
  have hkn : k = atoms.length := by omega
  subst hkn
  have hS2 := SS.drop [_, _, _] hS
  have hS3 := (hS2.nil 3 1).nil 37 2
  refine ⟨_, rfl, X, ⟨none, 0, none, 0, oT, cT, held, atoms.length⟩, rfl, ?_⟩
  have hS4 := hS3.perm (List.perm_middle (l₁ := [_, _, _]))
  unfold PjS
  simp only [startI, List.map_replicate, List.length_replicate, List.length_nil, List.map_nil, List.cons_append, List.nil_append] at hS4 ⊢
  exact hS4
set_option maxRecDepth 100000 in
set_option maxHeartbeats 400000 in

theorem just_proof_tell_c {G0 G : GH} {w0 w : World} {M : List Ent} {b : Nat} {va vr : Value} {h : PH} {us : List Value} {k : Nat} {hs m : List Int} {hd : List Bool} (hS : SS G0 w0 G (PjS b va vr h us k hs m hd ++ M) w) (rule what : Int) (v : Value) (l : List Int) (h1 : RSl 1 EInt G v l) (hl : ∀ x ∈ l, 0 ≤ x ∧ x < m.length) (hk : k ≤ 100000) :
   Calls Try.prog 35 #[.pointer (some ⟨b, 0, none⟩), .int .i64 rule, .int .i64 what, v] w (fun en w' => en = .returned (.tuple #[]) ∧ ∃ h', SS G0 w0 G (PjS b va vr h' (us ++ [.int .i64 rule, v]) (k + 1) hs (setAll m l what) hd ++ M) w') := by
 obtain ⟨oa, c, rfl, hlc, hcm⟩ := h1.elim
 have hle := h1.le
 have hbd := h1.bnd
 refine enter Try.func35 rfl (N := 38) rfl (Nat.le_of_ble_eq_true rfl) ?_
 unfold PjS at hS
 simp only [List.cons_append, List.nil_append] at hS
 refine cw_seq ?_
 refine cw_region ?_
 refine ol_pure rfl (op_move rfl) ?_
 refine ol_pure rfl (op_move rfl) ?_
 refine ol_pure rfl (op_nilCheck rfl) ?_
 refine ol_pure rfl (op_fieldAddr fld_67_1 rfl) ?_
 refine ol_pure rfl (op_fieldAddr2 (o := 2) (q := 2) fld_34_0 rfl (by decide)) ?_
 refine ol_load rfl (op_load1 one_32 rfl (fun w hw => (hw.bcell (i := 0) rfl).trans rfl)) hS ?_
 refine ol_pure rfl (op_move rfl) ?_
 refine ol_pure rfl (op_move rfl) ?_
 refine ol_pure rfl (op_build (is := [0, 1]) (xs := [.tmp 16, .tmp 17]) (v := .agg #[.int .i64 rule, .slice oa l.length c]) rfl rfl (fun w => by kernel_rfl)) ?_
 refine ol_step rfl (op_buildSlice (el := 37) (is := [0]) (xs := [.tmp 18]) (sz := 2) (cs := [.int .i64 rule, .slice oa l.length c]) hS rfl rfl (fun w => by kernel_rfl) rfl (by decide)) ?_
 clear hS
 rintro _ w ⟨s19, rfl, hS⟩
 refine ol_step rfl (op_append (j := 2) hS sl_32 el_37 rfl rfl rfl rfl rfl rfl (by decide) (hS.news (j := 0) rfl) (by simp [Value.oneCell']) (by omega) (by unfold maxLen; omega)) ?_
 clear hS
 rintro _ w ⟨stepsn, c_stepsn, rfl, hS⟩; (try simp only [List.nil_append, List.cons_append, List.set] at hS); replace hS := SS.drop [] hS; (try simp only [List.nil_append, List.cons_append] at hS)
 refine ol_pure rfl (op_nilCheck rfl) ?_
 refine ol_pure rfl (op_fieldAddr fld_67_1 rfl) ?_
 refine ol_pure rfl (op_fieldAddr2 (o := 2) (q := 2) fld_34_0 rfl (by decide)) ?_
 refine ol_step0  (op_storeB (j := 0) (k := 2) hS sz_32 rfl rfl rfl rfl (by simp)) ?_
 clear hS
 rintro _ w hS; (try simp only [List.nil_append, List.cons_append, List.set] at hS)
 refine ol_nil ?_
 refine pq_then ?_
 refine cw_seq ?_
 refine cw_region ?_
 refine ol_pure rfl (op_move rfl) ?_
 refine ol_pure rfl (op_len sl_28 rfl rfl) ?_
 refine ol_pure rfl (op_move rfl) ?_
 refine ol_nil ?_
 refine pq_then ?_
 refine cw_block ?_
 refine cw_loop (fun e w n => ∃ i : Nat, e = [(0, .pointer (some ⟨b, 0, none⟩)), (2, .int .i64 what), (24, .slice oa l.length c), (25, .int .i64 (l.length : Nat)), (26, .int .i64 (i : Nat))] ∧ i ≤ l.length ∧ n = l.length - i ∧ SS G0 w0 G (.blk b 67 [va, vr, .slice stepsn (k + 1) c_stepsn, .slice h.oh hs.length h.ch, .slice h.ot m.length h.ct, .slice h.ol hd.length h.cl] :: .row stepsn (k + 1) c_stepsn 37 2 (us ++ [.int .i64 rule, .slice oa l.length c]) :: .row h.oh hs.length h.ch 3 1 (hs.map (Value.int .i64)) :: .row h.ot m.length h.ct 3 1 ((setAll m (l.take i) what).map (Value.int .i64)) :: .row h.ol hd.length h.cl 4 1 (hd.map Value.bool) :: M) w) _ _ (by exact ⟨0, rfl, Nat.zero_le _, rfl, hS⟩) ((Sub.cons rfl (Sub.cons rfl (Sub.cons rfl (Sub.cons rfl (Sub.cons rfl Sub.nil)))))) ?_
 clear hS
 rintro e w n ⟨i, rfl, hi, rfl, hS⟩
 refine cw_seq ?_
 refine cw_region ?_
 refine ol_pure rfl (op_lss rfl rfl) ?_
 refine ol_nil ?_
 refine pq_then ?_
 refine cw_seq ?_
 refine cw_cond rfl (fun h27 => ?_) (fun h27 => ?_)
 ·
  skip
  try simp only [decide_eq_true_eq, decide_eq_false_iff_not, Bool.not_eq_true', Bool.not_eq_false', Bool.not_eq_eq_eq_not, Bool.not_true, Bool.not_false] at h27
  have hlt : i < l.length := by omega
  obtain ⟨hoa, hc, hb⟩ := h1.int hlt
  obtain ⟨j, hj⟩ := Int.eq_ofNat_of_zero_le (hl _ (List.getElem_mem hlt)).1
  have hjm : j < m.length := by have := (hl _ (List.getElem_mem hlt)).2; omega
  have hcm2 : ((setAll m (l.take i) what).map (Value.int .i64))[j * 1]? = some (.int .i64 ((setAll m (l.take i) what).getD j 0)) := by
    have : j < (setAll m (l.take i) what).length := by rw [setAll_len]; exact hjm
    simp [this]
  have hoT := (hS.news (j := 3) rfl _ _ hcm2).1
  refine cw_skip ?_
  refine pq_then ?_
  refine cw_seq ?_
  refine cw_block ?_
  refine cw_seq ?_
  refine cw_region ?_
  refine ol_pure rfl (op_indexN sl_28 rfl rfl (by omega) (by assumption)) ?_
  refine ol_load rfl (op_load1 one_3 rfl (fun w hw => by first | exact hw.gcell (by assumption) | exact hw.gcell0 (by assumption))) hS ?_
  refine ol_pure rfl (op_assign rfl) ?_
  refine ol_nil ?_
  refine pq_then ?_
  refine cw_region ?_
  refine ol_pure rfl (op_move rfl) ?_
  refine ol_pure rfl (op_nilCheck rfl) ?_
  refine ol_pure rfl (op_fieldAddr fld_67_2 rfl) ?_
  refine ol_load rfl (op_load1 one_28 rfl (fun w hw => (hw.bcell (i := 0) rfl).trans rfl)) hS ?_
  refine ol_pure rfl (op_move rfl) ?_
  refine ol_pure rfl (op_move rfl) ?_
  refine ol_pure rfl (op_val (op_indexAddr sl_28 rfl rfl (by omega) (by omega) hoT) (v' := .pointer (some (elA h.ot (j * 1)))) (by rw [hj]; rfl)) ?_
  refine ol_step0  (op_storeR (j := 3) (k := j * 1) hS sz_3 rfl rfl rfl rfl (by simp [setAll_len]; omega)) ?_
  clear hS
  rintro _ w hS; (try simp only [List.nil_append, List.cons_append, List.set] at hS)
  refine ol_nil ?_
  refine pq_in_normal ?_
  refine pq_then ?_
  refine cw_region ?_
  refine ol_pure rfl (op_add rfl rfl (by omega) (by omega)) ?_
  refine ol_pure rfl (op_move rfl) ?_
  refine ol_nil ?_
  refine pq_loop _ _ (by exact ⟨i + 1, rfl, by omega, rfl, by rw [setAll_snoc _ _ _ hlt, List.map_set, hj]; simpa using hS⟩) ((Sub.cons rfl (Sub.cons rfl (Sub.cons rfl (Sub.cons rfl (Sub.cons rfl Sub.nil)))))) (by omega)
 ·
  skip
  try simp only [decide_eq_true_eq, decide_eq_false_iff_not, Bool.not_eq_true', Bool.not_eq_false', Bool.not_eq_eq_eq_not, Bool.not_true, Bool.not_false] at h27
  refine cw_exit ?_
  refine pq_exit ?_
  refine pq_exit ?_
  refine pq_in_exit ?_
  refine end0 rfl ?_
  rw [List.take_of_length_le (show l.length ≤ i by omega)] at hS
  refine ⟨rfl, { h with os := stepsn, cs := c_stepsn }, ?_⟩
  unfold PjS
  rw [setAll_len]
  exact hS
end Go.Proofs.Ytmkgechdfimfnaa.K
