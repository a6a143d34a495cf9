/-
  The court of layer judge: what it reads.
  No condition but the premises that each theorem names.
-/
import Derived.Test.YtbpmkidaoemebaaJslices
import Derived.Test.YtbpmkidaoemebaaWfm
namespace Go.Proofs.Ytbpmkidaoemebaa.K
open Go Go.RowKit
set_option linter.unusedVariables false
set_option linter.unusedSimpArgs false

open Pl
def EStep : ER Step := fun G cs s => ∃ v, cs = [.int .i64 s.rule, v] ∧ RSl 1 EInt G v s.atoms ∧ (-9223372036854775808 ≤ s.rule ∧ s.rule ≤ 9223372036854775807)
theorem EStep.mono : EMono EStep := fun _ _ _ _ hl ⟨v, h1, h2, h3⟩ => ⟨v, h1, h2.mono EInt.mono hl, h3⟩
/-- A court: a program, and what was told. -/
structure CoR (G : GH) (b : Nat) (vA vR vT : Value) : Prop where
  c0 : gcell G ⟨b, 0, none⟩ = some vA
  c1 : gcell G ((⟨b, 0, none⟩ : Addr).add 1) = some vR
  c2 : gcell G ((⟨b, 0, none⟩ : Addr).add 2) = some vT
theorem CoR.mono {G G' : GH} {b : Nat} {vA vR vT : Value} (h : CoR G b vA vR vT) (hl : Le G G') : CoR G' b vA vR vT := ⟨hl.cell h.c0, hl.cell h.c1, hl.cell h.c2⟩
abbrev pc (b : Nat) : Value := .pointer (some ⟨b, 0, none⟩)
theorem val_at {m : List Int} {j : Nat} (h : j < m.length) : valI m (j : Int) = m[j] := by simp [valI, h]

set_option maxRecDepth 100000 in

theorem judge_court_is_1_c (G : GH) (w0 : World) (hG : Holds G w0) (b : Nat) (vA vR vT : Value) (m : List Int) (hc : CoR G b vA vR vT) (hTo : RSl 1 EInt G vT m) (b2 b3 : Nat) (x tr : Int) (hb2 : gcell G ⟨b2, 0, none⟩ = some (.pointer (some ⟨b, 0, none⟩))) (hb3 : gcell G ⟨b3, 0, none⟩ = some (.int .i64 tr)) (hx : 0 ≤ x ∧ x < m.length) :
    Calls Try.prog 76 #[.int .i64 x, .pointer (some ⟨b2, 0, none⟩), .pointer (some ⟨b3, 0, none⟩)] w0 (Sc w0 (.bool (decide (valI m x = tr)))) := by
  obtain ⟨oT, cT, rfl, hlT, hmT⟩ := hTo.elim
  have hTle := hTo.le
  obtain ⟨j, rfl⟩ := Int.eq_ofNat_of_zero_le hx.1
  have hj : j < m.length := by omega
  obtain ⟨hoT, hcT, _⟩ := hTo.int hj
  refine enter Try.func76 rfl (N := 14) rfl (Nat.le_of_ble_eq_true rfl) ?_
  have hS := SS.init hG
  refine cw_seq ?_
  refine cw_region ?_
  -- r0.0 t4 := assign  Cfalse
  refine ol_pure rfl (op_assign rfl) ?_
  refine ol_nil ?_
  refine pq_then ?_
  refine cw_seq ?_
  refine al_start' hS (hS.take 0) (by kernel_rfl) rfl (fun w hS hT => ?_)
  -- r1.0 t5 := load [53] t1
  refine al_load (i := 0) rfl (by kernel_rfl) (by kernel_rfl) (by kernel_rfl) rfl (fun _ _ _ h => h) (by exact op_load1 one_53 rfl (fun w hw => hw.gcell hb2)) rfl hT ?_
  -- r1.1 t6 := nilCheck  t5
  refine al_take (i := 1) rfl (by kernel_rfl) (by kernel_rfl) (by kernel_rfl) rfl (fun _ _ _ h => h) (op_nilCheck rfl) rfl ?_
  -- r1.2 t7 := fieldAddr [56, 1] t6
  refine al_take (i := 2) rfl (by kernel_rfl) (by kernel_rfl) (by kernel_rfl) rfl (fun _ _ _ h => h) (op_fieldAddr fld_56_1 rfl) rfl ?_
  -- r1.3 t8 := load [29] t7
  refine al_load (i := 3) rfl (by kernel_rfl) (by kernel_rfl) (by kernel_rfl) rfl (fun _ _ _ h => h) (by exact op_load1 one_29 rfl (fun w hw => hw.gcell hc.c2)) rfl hT ?_
  -- r1.4 t9 := move  t0
  refine al_take (i := 4) rfl (by kernel_rfl) (by kernel_rfl) (by kernel_rfl) rfl (fun _ _ _ h => h) (op_move rfl) rfl ?_
  -- r1.5 t10 := indexAddr [29] t8 t9
  refine al_take (i := 5) rfl (by kernel_rfl) (by kernel_rfl) (by kernel_rfl) rfl (fun _ _ _ h => h) (op_indexN sl_29 rfl rfl (by omega) (by assumption)) rfl ?_
  -- r1.6 t11 := load [3] t10
  refine al_load (i := 6) rfl (by kernel_rfl) (by kernel_rfl) (by kernel_rfl) rfl (fun _ _ _ h => h) (by exact op_load1 one_3 rfl (fun w hw => hw.gcell hcT)) rfl hT ?_
  -- r1.7 t12 := load [3] t2
  refine al_load (i := 7) rfl (by kernel_rfl) (by kernel_rfl) (by kernel_rfl) rfl (fun _ _ _ h => h) (by exact op_load1 one_3 rfl (fun w hw => hw.gcell hb3)) rfl hT ?_
  -- r1.8 t13 := eql t11 t12
  refine al_take (i := 8) rfl (by kernel_rfl) (by kernel_rfl) (by kernel_rfl) rfl (fun _ _ _ h => h) (op_eql rfl rfl) rfl ?_
  -- r1.9 t4 := assign  t13
  refine al_take (i := 9) rfl (by kernel_rfl) (by kernel_rfl) (by kernel_rfl) rfl (fun _ _ _ h => h) (op_assign rfl) rfl ?_
  refine al_done (by kernel_rfl) ?_
  refine pq_then ?_
  refine cw_ret ?_
  refine ret1 rfl rfl ?_
  -- ret1 
  exact hS.sc_b (by rw [val_at hj])
set_option maxRecDepth 100000 in

theorem judge_court_all_1_c (G : GH) (w0 : World) (hG : Holds G w0) (b : Nat) (vA vR vT : Value) (m : List Int) (hc : CoR G b vA vR vT) (hTo : RSl 1 EInt G vT m) (b2 b3 : Nat) (x tr : Int) (hb2 : gcell G ⟨b2, 0, none⟩ = some (.pointer (some ⟨b, 0, none⟩))) (hb3 : gcell G ⟨b3, 0, none⟩ = some (.int .i64 tr)) (hx : 0 ≤ x ∧ x < m.length) :
    Calls Try.prog 66 #[.int .i64 x, .pointer (some ⟨b2, 0, none⟩), .pointer (some ⟨b3, 0, none⟩)] w0 (Sc w0 (.bool (!decide (valI m x = tr)))) := by
  obtain ⟨oT, cT, rfl, hlT, hmT⟩ := hTo.elim
  have hTle := hTo.le
  obtain ⟨j, rfl⟩ := Int.eq_ofNat_of_zero_le hx.1
  have hj : j < m.length := by omega
  obtain ⟨hoT, hcT, _⟩ := hTo.int hj
  refine enter Try.func66 rfl (N := 14) rfl (Nat.le_of_ble_eq_true rfl) ?_
  have hS := SS.init hG
  refine cw_seq ?_
  refine cw_region ?_
  -- r0.0 t4 := assign  Cfalse
  refine ol_pure rfl (op_assign rfl) ?_
  refine ol_nil ?_
  refine pq_then ?_
  refine cw_seq ?_
  refine al_start' hS (hS.take 0) (by kernel_rfl) rfl (fun w hS hT => ?_)
  -- r1.0 t5 := load [53] t1
  refine al_load (i := 0) rfl (by kernel_rfl) (by kernel_rfl) (by kernel_rfl) rfl (fun _ _ _ h => h) (by exact op_load1 one_53 rfl (fun w hw => hw.gcell hb2)) rfl hT ?_
  -- r1.1 t6 := nilCheck  t5
  refine al_take (i := 1) rfl (by kernel_rfl) (by kernel_rfl) (by kernel_rfl) rfl (fun _ _ _ h => h) (op_nilCheck rfl) rfl ?_
  -- r1.2 t7 := fieldAddr [56, 1] t6
  refine al_take (i := 2) rfl (by kernel_rfl) (by kernel_rfl) (by kernel_rfl) rfl (fun _ _ _ h => h) (op_fieldAddr fld_56_1 rfl) rfl ?_
  -- r1.3 t8 := load [29] t7
  refine al_load (i := 3) rfl (by kernel_rfl) (by kernel_rfl) (by kernel_rfl) rfl (fun _ _ _ h => h) (by exact op_load1 one_29 rfl (fun w hw => hw.gcell hc.c2)) rfl hT ?_
  -- r1.4 t9 := move  t0
  refine al_take (i := 4) rfl (by kernel_rfl) (by kernel_rfl) (by kernel_rfl) rfl (fun _ _ _ h => h) (op_move rfl) rfl ?_
  -- r1.5 t10 := indexAddr [29] t8 t9
  refine al_take (i := 5) rfl (by kernel_rfl) (by kernel_rfl) (by kernel_rfl) rfl (fun _ _ _ h => h) (op_indexN sl_29 rfl rfl (by omega) (by assumption)) rfl ?_
  -- r1.6 t11 := load [3] t10
  refine al_load (i := 6) rfl (by kernel_rfl) (by kernel_rfl) (by kernel_rfl) rfl (fun _ _ _ h => h) (by exact op_load1 one_3 rfl (fun w hw => hw.gcell hcT)) rfl hT ?_
  -- r1.7 t12 := load [3] t2
  refine al_load (i := 7) rfl (by kernel_rfl) (by kernel_rfl) (by kernel_rfl) rfl (fun _ _ _ h => h) (by exact op_load1 one_3 rfl (fun w hw => hw.gcell hb3)) rfl hT ?_
  -- r1.8 t13 := neq t11 t12
  refine al_take (i := 8) rfl (by kernel_rfl) (by kernel_rfl) (by kernel_rfl) rfl (fun _ _ _ h => h) (op_neq rfl rfl) rfl ?_
  -- r1.9 t4 := assign  t13
  refine al_take (i := 9) rfl (by kernel_rfl) (by kernel_rfl) (by kernel_rfl) rfl (fun _ _ _ h => h) (op_assign rfl) rfl ?_
  refine al_done (by kernel_rfl) ?_
  refine pq_then ?_
  refine cw_ret ?_
  refine ret1 rfl rfl ?_
  -- ret1 
  exact hS.sc_b (by rw [val_at hj])
set_option maxRecDepth 100000 in

theorem judge_court_is_c (w0 : World) (b : Nat) (tr : Int) :
    Calls Try.prog 70 #[.pointer (some ⟨b, 0, none⟩), .int .i64 tr] w0 (Rt noG w0 (fun G v => ∃ b2 b3, v = .func (.func 76) #[] #[.pointer (some ⟨b2, 0, none⟩), .pointer (some ⟨b3, 0, none⟩)] ∧ gcell G ⟨b2, 0, none⟩ = some (.pointer (some ⟨b, 0, none⟩)) ∧ gcell G ⟨b3, 0, none⟩ = some (.int .i64 tr))) := by
  refine enter Try.func70 rfl (N := 6) rfl (Nat.le_of_ble_eq_true rfl) ?_
  have hS := SS.init (G := noG) (w := w0) (fun _ _ h => by cases h)
  refine cw_seq ?_
  refine cw_region ?_
  -- r0.0 t2 := box [53] t0
  refine ol_step rfl (op_box hS rfl rfl) ?_
  clear hS
  rintro _ w ⟨b2, rfl, hS⟩
  -- r0.1 t3 := box [3] t1
  refine ol_step rfl (op_box hS rfl rfl) ?_
  clear hS
  rintro _ w ⟨b3, rfl, hS⟩
  -- r0.2 t4 := assign  CnilFunc
  refine ol_pure rfl (op_assign rfl) ?_
  refine ol_nil ?_
  refine pq_then ?_
  refine cw_seq ?_
  refine cw_region ?_
  -- r1.0 t5 := makeFunc (func 76) |t2 t3
  refine ol_pure rfl (op_makeFunc rfl rfl) ?_
  -- r1.1 t4 := assign  t5
  refine ol_pure rfl (op_assign rfl) ?_
  refine ol_nil ?_
  refine pq_then ?_
  refine cw_ret ?_
  refine ret1 rfl rfl ?_
  -- ret1 
  obtain ⟨F3, G3, hF3, hn3, hf3, hl3, hS3⟩ := SS.giveB [] hS
  obtain ⟨F2, G2, hF2, hn2, hf2, hl2, hS2⟩ := SS.giveB [] hS3
  obtain ⟨J, hj1, hj2, hjG, hjF⟩ := join_fr (w0 := w0) hS2.hold hf2 (hf3.trans hl2) hn2 hn3
  exact hS2.rt_fr hjG hjF ⟨b2, b3, rfl, hj1.cell (hF2 0 _ rfl), hj2.cell (hF3 0 _ rfl)⟩
set_option maxRecDepth 100000 in

theorem judge_court_all_c (G : GH) (w0 : World) (hG : Holds G w0) (b : Nat) (vA vR vT : Value) (m : List Int) (hc : CoR G b vA vR vT) (hTo : RSl 1 EInt G vT m) (v : Value) (l : List Int) (tr : Int) (h1 : RSl 1 EInt G v l) (hl : ∀ x ∈ l, 0 ≤ x ∧ x < m.length) :
    Calls Try.prog 49 #[.pointer (some ⟨b, 0, none⟩), v, .int .i64 tr] w0 (Sc w0 (.bool (areB m l tr))) := by
  refine enter Try.func49 rfl (N := 13) rfl (Nat.le_of_ble_eq_true rfl) ?_
  have hS := SS.init hG
  refine cw_seq ?_
  refine cw_region ?_
  -- r0.0 t3 := box [53] t0
  refine ol_step rfl (op_box hS rfl rfl) ?_
  clear hS
  rintro _ w ⟨b3, rfl, hS⟩
  -- r0.1 t5 := box [3] t2
  refine ol_step rfl (op_box hS rfl rfl) ?_
  clear hS
  rintro _ w ⟨b5, rfl, hS⟩
  -- r0.2 t6 := assign  Cfalse
  refine ol_pure rfl (op_assign rfl) ?_
  refine ol_nil ?_
  refine pq_then ?_
  refine cw_seq ?_
  refine cw_region ?_
  -- r1.0 t8 := makeFunc (func 66) |t3 t5
  refine ol_pure rfl (op_makeFunc rfl rfl) ?_
  -- r1.1 t7 := assign  t8
  refine ol_pure rfl (op_assign rfl) ?_
  refine ol_nil ?_
  refine pq_then ?_
  refine cw_seq ?_
  refine cw_region ?_
  -- r2.0 t9 := move  t1
  refine ol_pure rfl (op_move rfl) ?_
  -- r2.1 t10 := move  t7
  refine ol_pure rfl (op_move rfl) ?_
  -- r2.2 t11 := call f53 t9 t10
  refine ol_step rfl (op_call_sc hS cf_53 rfl (slices_ContainsFunc_c (fullG _) _ (Holds.full _) _ l (h1.mono EInt.mono hS.hold.le_full) (fun a => !decide (valI m a = tr)) 66 [.pointer (some ⟨b3, 0, none⟩), .pointer (some ⟨b5, 0, none⟩)] cf_66 (fun w' hB x hx => judge_court_all_1_c (fullG _) w' ((Holds.full _).below hB) b vA vR vT m (hc.mono hS.hold.le_full) (hTo.mono EInt.mono hS.hold.le_full) b3 b5 x tr (hS.bcell0 (i := 1) rfl) (hS.bcell0 (i := 0) rfl) (hl x hx)))) ?_
  clear hS
  rintro _ w ⟨rfl, hS⟩
  -- r2.3 t12 := not t11
  refine ol_pure rfl (op_not rfl) ?_
  -- r2.4 t6 := assign  t12
  refine ol_pure rfl (op_assign rfl) ?_
  refine ol_nil ?_
  refine pq_then ?_
  refine cw_ret ?_
  refine ret1 rfl rfl ?_
  -- ret1 
  exact hS.sc_b (by rw [areB]; simp [List.all_eq_not_any_not])
set_option maxRecDepth 100000 in

theorem judge_court_fires_c (G : GH) (w0 : World) (hG : Holds G w0) (b : Nat) (vA vR vT : Value) (m : List Int) (hc : CoR G b vA vR vT) (hTo : RSl 1 EInt G vT m) (r : Rule) (p q : Value) (h1 : RSl 1 EInt G p r.pos) (h2 : RSl 1 EInt G q r.neg) (hr : RuleOk m.length r) :
    Calls Try.prog 29 #[.pointer (some ⟨b, 0, none⟩), .agg #[.int .i64 r.head, p, q]] w0 (Sc w0 (.bool (firesB m r))) := by
  refine enter Try.func29 rfl (N := 15) rfl (Nat.le_of_ble_eq_true rfl) ?_
  have hS := SS.init hG
  refine cw_seq ?_
  refine cw_region ?_
  -- r0.0 t3 := box [48] t1
  refine ol_step rfl (op_box hS rfl rfl) ?_
  clear hS
  rintro _ w ⟨b3, rfl, hS⟩
  -- r0.1 t4 := assign  Cfalse
  refine ol_pure rfl (op_assign rfl) ?_
  refine ol_nil ?_
  refine pq_then ?_
  refine cw_seq ?_
  refine cw_region ?_
  -- r1.0 t5 := move  t0
  refine ol_pure rfl (op_move rfl) ?_
  -- r1.1 t6 := fieldAddr [48, 1] t3
  refine ol_pure rfl (op_fieldAddr fld_48_1 rfl) ?_
  -- r1.2 t7 := load [29] t6
  refine ol_load rfl (op_load1 one_29 rfl (fun w hw => (hw.bcell (i := 0) rfl).trans rfl)) hS ?_
  -- r1.3 t8 := call f49 t5 t7 C2
  refine ol_step rfl (op_call_sc hS cf_49 rfl (judge_court_all_c G _ hS.hold b vA vR vT m hc hTo _ r.pos 2 h1 hr.2.1)) ?_
  clear hS
  rintro _ w ⟨rfl, hS⟩
  -- r1.4 t9 := move  t8
  refine ol_pure rfl (op_move rfl) ?_
  refine ol_split (fun h9 => ?_) (fun h9 => ?_)
  · skip
    try simp only [decide_eq_true_eq, decide_eq_false_iff_not, Bool.not_eq_true', Bool.not_eq_false', Bool.not_eq_eq_eq_not, Bool.not_true, Bool.not_false] at h9
    -- r1.5 t10 := move  t0 ?4=True
    refine ol_guard_pure rfl rfl rfl (op_move rfl) ?_
    -- r1.6 t11 := fieldAddr [48, 2] t3 ?4=True
    refine ol_guard_pure rfl rfl rfl (op_fieldAddr fld_48_2 rfl) ?_
    -- r1.7 t12 := load [29] t11 ?4=True
    refine ol_guard_load rfl rfl rfl (op_load1 one_29 rfl (fun w hw => (hw.bcell (i := 0) rfl).trans rfl)) hS ?_
    -- r1.8 t13 := call f49 t10 t12 C0 ?4=True
    refine ol_guard_step rfl rfl rfl (op_call_sc hS cf_49 rfl (judge_court_all_c G _ hS.hold b vA vR vT m hc hTo _ r.neg 0 h2 hr.2.2)) ?_
    clear hS
    rintro _ w ⟨rfl, hS⟩
    -- r1.9 t14 := pick  t9 t13 Cfalse
    refine ol_pure rfl (op_pick_t rfl rfl) ?_
    -- r1.10 t4 := assign  t14
    refine ol_pure rfl (op_assign rfl) ?_
    refine ol_nil ?_
    refine pq_then ?_
    refine cw_ret ?_
    refine ret1 rfl rfl ?_
    -- ret1 h9t
    exact hS.sc_b (by rw [firesB, h9]; rfl)
  · skip
    try simp only [decide_eq_true_eq, decide_eq_false_iff_not, Bool.not_eq_true', Bool.not_eq_false', Bool.not_eq_eq_eq_not, Bool.not_true, Bool.not_false] at h9
    refine ol_guard_no rfl rfl rfl rfl ?_
    refine ol_guard_no rfl rfl rfl rfl ?_
    refine ol_guard_no rfl rfl rfl rfl ?_
    refine ol_guard_no rfl rfl rfl rfl ?_
    -- r1.9 t14 := pick  t9 t13 Cfalse
    refine ol_pure rfl (op_pick_f rfl rfl) ?_
    -- r1.10 t4 := assign  t14
    refine ol_pure rfl (op_assign rfl) ?_
    refine ol_nil ?_
    refine pq_then ?_
    refine cw_ret ?_
    refine ret1 rfl rfl ?_
    -- ret1 h9f
    exact hS.sc_b (by rw [firesB, h9]; rfl)
set_option maxRecDepth 100000 in

theorem judge_court_blocked_c (G : GH) (w0 : World) (hG : Holds G w0) (b : Nat) (vA vR vT : Value) (m : List Int) (hc : CoR G b vA vR vT) (hTo : RSl 1 EInt G vT m) (r : Rule) (p q : Value) (h1 : RSl 1 EInt G p r.pos) (h2 : RSl 1 EInt G q r.neg) (hr : RuleOk m.length r) :
    Calls Try.prog 52 #[.pointer (some ⟨b, 0, none⟩), .agg #[.int .i64 r.head, p, q]] w0 (Sc w0 (.bool (hasB m r.pos 0 || hasB m r.neg 2))) := by
  refine enter Try.func52 rfl (N := 17) rfl (Nat.le_of_ble_eq_true rfl) ?_
  have hS := SS.init hG
  refine cw_seq ?_
  refine cw_region ?_
  -- r0.0 t3 := box [48] t1
  refine ol_step rfl (op_box hS rfl rfl) ?_
  clear hS
  rintro _ w ⟨b3, rfl, hS⟩
  -- r0.1 t4 := assign  Cfalse
  refine ol_pure rfl (op_assign rfl) ?_
  refine ol_nil ?_
  refine pq_then ?_
  refine cw_seq ?_
  refine al_start' hS (hS.take 1) (by kernel_rfl) rfl (fun w hS hT => ?_)
  -- r1.0 t5 := fieldAddr [48, 1] t3
  refine al_take (i := 0) rfl (by kernel_rfl) (by kernel_rfl) (by kernel_rfl) rfl (fun _ _ _ h => h) (op_fieldAddr fld_48_1 rfl) rfl ?_
  -- r1.1 t6 := load [29] t5
  refine al_load (i := 1) rfl (by kernel_rfl) (by kernel_rfl) (by kernel_rfl) rfl (fun _ _ _ h => h) (by exact op_load1 one_29 rfl (fun w hw => (hw.bcell (i := 0) rfl).trans rfl)) rfl hT ?_
  -- r1.2 t7 := move  t0
  refine al_take (i := 2) rfl (by kernel_rfl) (by kernel_rfl) (by kernel_rfl) rfl (fun _ _ _ h => h) (op_move rfl) rfl ?_
  refine al_step (i := 3) rfl (by kernel_rfl) rfl (op_call_fr hS cf_70 rfl (judge_court_is_c _ b 0)) ?_
  clear hS
  rintro v8 w ⟨F8, G8, hR8, hF8, hf8, hl8, hS⟩
  obtain ⟨x8, y8, rfl, p8, q8⟩ := hR8
  replace p8 := hf8.cell p8
  replace q8 := hf8.cell q8
  have hT := hT.back hS (by first | exact Le.refl _ | assumption) (fun x hx => by try simp only [List.take_succ_cons, List.take_zero, List.mem_cons, List.not_mem_nil, or_false] at hx; (rcases hx with rfl) <;> simp)
  refine ⟨fun _ _ => hT, ?_⟩
  refine al_step (i := 4) rfl (by kernel_rfl) rfl (op_call_sc hS cf_53 rfl (slices_ContainsFunc_c _ _ hS.hold _ r.pos (h1.mono EInt.mono hl8) (fun a => decide (valI m a = 0)) 76 [.pointer (some ⟨x8, 0, none⟩), .pointer (some ⟨y8, 0, none⟩)] cf_76 (fun w' hB x hx => judge_court_is_1_c _ w' (hS.hold.below hB) b vA vR vT m (hc.mono hl8) (hTo.mono EInt.mono hl8) x8 y8 x 0 p8 q8 (hr.2.1 x hx)))) ?_
  clear hS
  rintro _ w ⟨rfl, hS⟩
  have hT := hT.back hS (by first | exact Le.refl _ | assumption) (fun x hx => by try simp only [List.take_succ_cons, List.take_zero, List.mem_cons, List.not_mem_nil, or_false] at hx; (rcases hx with rfl) <;> simp)
  refine ⟨fun _ _ => hT, ?_⟩
  -- r1.5 t10 := move  t9
  refine al_take (i := 5) rfl (by kernel_rfl) (by kernel_rfl) (by kernel_rfl) rfl (fun _ _ _ h => h) (op_move rfl) rfl ?_
  refine al_split (fun h10 => ?_) (fun h10 => ?_)
  · skip
    try simp only [decide_eq_true_eq, decide_eq_false_iff_not, Bool.not_eq_true', Bool.not_eq_false', Bool.not_eq_eq_eq_not, Bool.not_true, Bool.not_false] at h10
    refine al_gskip (i := 6) rfl (by kernel_rfl) (by kernel_rfl) (by kernel_rfl) rfl rfl rfl rfl (fun _ _ _ h => h) (fun _ => hT) ?_
    refine al_gskip (i := 7) rfl (by kernel_rfl) (by kernel_rfl) (by kernel_rfl) rfl rfl rfl rfl (fun _ _ _ h => h) (fun _ => hT) ?_
    refine al_gskip (i := 8) rfl (by kernel_rfl) (by kernel_rfl) (by kernel_rfl) rfl rfl rfl rfl (fun _ _ _ h => h) (fun _ => hT) ?_
    refine al_gskip (i := 9) rfl (by kernel_rfl) (by kernel_rfl) (by kernel_rfl) rfl rfl rfl rfl (fun _ _ _ h => h) (fun _ => hT) ?_
    refine al_gskip (i := 10) rfl (by kernel_rfl) (by kernel_rfl) (by kernel_rfl) rfl rfl rfl rfl (fun _ _ _ h => h) (fun _ => hT) ?_
    -- r1.11 t16 := pick  t10 Ctrue t15
    refine al_take (i := 11) rfl (by kernel_rfl) (by kernel_rfl) (by kernel_rfl) rfl (fun _ _ _ h => h) (op_pick_t rfl rfl) rfl ?_
    -- r1.12 t4 := assign  t16
    refine al_take (i := 12) rfl (by kernel_rfl) (by kernel_rfl) (by kernel_rfl) rfl (fun _ _ _ h => h) (op_assign rfl) rfl ?_
    refine al_done (by kernel_rfl) ?_
    refine pq_then ?_
    refine cw_ret ?_
    refine ret1 rfl rfl ?_
    -- ret1 h10t
    exact hS.sc_b (by rw [show hasB m r.pos 0 = true from h10]; rfl)
  · skip
    try simp only [decide_eq_true_eq, decide_eq_false_iff_not, Bool.not_eq_true', Bool.not_eq_false', Bool.not_eq_eq_eq_not, Bool.not_true, Bool.not_false] at h10
    -- r1.6 t11 := fieldAddr [48, 2] t3 ?5=False
    refine al_gtake (i := 6) rfl (by kernel_rfl) (by kernel_rfl) (by kernel_rfl) rfl rfl rfl (fun _ _ _ h => h) (op_fieldAddr fld_48_2 rfl) rfl ?_
    -- r1.7 t12 := load [29] t11 ?5=False
    refine al_gload (i := 7) rfl (by kernel_rfl) (by kernel_rfl) (by kernel_rfl) rfl rfl rfl (fun _ _ _ h => h) (by exact op_load1 one_29 rfl (fun w hw => (hw.bcell (i := 0) rfl).trans rfl)) rfl hT ?_
    -- r1.8 t13 := move  t0 ?5=False
    refine al_gtake (i := 8) rfl (by kernel_rfl) (by kernel_rfl) (by kernel_rfl) rfl rfl rfl (fun _ _ _ h => h) (op_move rfl) rfl ?_
    refine al_gstep (i := 9) rfl (by kernel_rfl) rfl rfl rfl (op_call_fr hS cf_70 rfl (judge_court_is_c _ b 2)) ?_
    clear hS
    rintro v14 w ⟨F14, G14, hR14, hF14, hf14, hl14, hS⟩
    obtain ⟨x14, y14, rfl, p14, q14⟩ := hR14
    replace p14 := hf14.cell p14
    replace q14 := hf14.cell q14
    have hl14b := hl8.trans hl14
    have hT := hT.back hS (by first | exact Le.refl _ | assumption) (fun x hx => by try simp only [List.take_succ_cons, List.take_zero, List.mem_cons, List.not_mem_nil, or_false] at hx; (rcases hx with rfl) <;> simp)
    refine ⟨fun _ _ => hT, ?_⟩
    refine al_gstep (i := 10) rfl (by kernel_rfl) rfl rfl rfl (op_call_sc hS cf_53 rfl (slices_ContainsFunc_c _ _ hS.hold _ r.neg (h2.mono EInt.mono hl14b) (fun a => decide (valI m a = 2)) 76 [.pointer (some ⟨x14, 0, none⟩), .pointer (some ⟨y14, 0, none⟩)] cf_76 (fun w' hB x hx => judge_court_is_1_c _ w' (hS.hold.below hB) b vA vR vT m (hc.mono hl14b) (hTo.mono EInt.mono hl14b) x14 y14 x 2 p14 q14 (hr.2.2 x hx)))) ?_
    clear hS
    rintro _ w ⟨rfl, hS⟩
    have hT := hT.back hS (by first | exact Le.refl _ | assumption) (fun x hx => by try simp only [List.take_succ_cons, List.take_zero, List.mem_cons, List.not_mem_nil, or_false] at hx; (rcases hx with rfl) <;> simp)
    refine ⟨fun _ _ => hT, ?_⟩
    -- r1.11 t16 := pick  t10 Ctrue t15
    refine al_take (i := 11) rfl (by kernel_rfl) (by kernel_rfl) (by kernel_rfl) rfl (fun _ _ _ h => h) (op_pick_f rfl rfl) rfl ?_
    -- r1.12 t4 := assign  t16
    refine al_take (i := 12) rfl (by kernel_rfl) (by kernel_rfl) (by kernel_rfl) rfl (fun _ _ _ h => h) (op_assign rfl) rfl ?_
    refine al_done (by kernel_rfl) ?_
    refine pq_then ?_
    refine cw_ret ?_
    refine ret1 rfl rfl ?_
    -- ret1 h10f
    exact hS.sc_b (by rw [show hasB m r.pos 0 = false from h10]; rfl)
set_option maxRecDepth 100000 in
set_option maxHeartbeats 400000 in

theorem judge_court_set_c (G : GH) (w0 : World) (hG : Holds G w0) (b : Nat) (vA vR vT : Value) (m : List Int) (hc : CoR G b vA vR vT) (hTo : RSl 1 EInt G vT m) (v : Value) (l : List Int) (h1 : RSl 1 EInt G v l) :
    Calls Try.prog 67 #[.pointer (some ⟨b, 0, none⟩), v] w0 (Sc w0 (.bool (setOpen m l))) := by
  obtain ⟨oT, cT, rfl, hlT, hmT⟩ := hTo.elim
  have hTle := hTo.le
  obtain ⟨oa, c, rfl, hlc, hcm⟩ := h1.elim
  have hle := h1.le
  refine enter Try.func67 rfl (N := 52) rfl (Nat.le_of_ble_eq_true rfl) ?_
  have hS := SS.init hG
  refine cw_seq ?_
  refine cw_region ?_
  -- r0.0 t4 := assign  Cfalse
  refine ol_pure rfl (op_assign rfl) ?_
  refine ol_nil ?_
  refine pq_then ?_
  refine cw_seq ?_
  refine cw_seq ?_
  refine cw_region ?_
  -- r1.0 t7 := move  t1
  refine ol_pure rfl (op_move rfl) ?_
  -- r1.1 t8 := call len t7
  refine ol_pure rfl (op_len sl_29 rfl rfl) ?_
  -- r1.2 t9 := move  C0
  refine ol_pure rfl (op_move rfl) ?_
  refine ol_nil ?_
  refine pq_then ?_
  refine cw_block ?_
  refine cw_loop (fun e w n => ∃ k : Nat, e = [(0, .pointer (some ⟨b, 0, none⟩)), (1, .slice oa l.length c), (7, .slice oa l.length c), (8, .int .i64 (l.length : Nat)), (9, .int .i64 (k : Nat))] ∧ k ≤ l.length ∧ n = l.length - k ∧ (l.take k).all (fun a => decide (0 ≤ a) && decide (a < (m.length : Int)) && decide (valI m a = 1)) = true ∧ (l.take k).Pairwise (· < ·) ∧ SS G w0 G [] w) _ _ (by exact ⟨0, rfl, Nat.zero_le _, rfl, rfl, by simp, hS⟩) ((Sub.cons rfl (Sub.cons rfl (Sub.cons rfl (Sub.cons rfl (Sub.cons rfl Sub.nil)))))) ?_
  clear hS
  rintro e w n ⟨k, rfl, hk, rfl, hp, hq, hS⟩
  refine cw_seq ?_
  refine cw_region ?_
  -- r2.0 t10 := lss t9 t8
  refine ol_pure rfl (op_lss rfl rfl) ?_
  refine ol_nil ?_
  refine pq_then ?_
  refine cw_seq ?_
  refine cw_cond rfl (fun h10 => ?_) (fun h10 => ?_)
  · skip
    try simp only [decide_eq_true_eq, decide_eq_false_iff_not, Bool.not_eq_true', Bool.not_eq_false', Bool.not_eq_eq_eq_not, Bool.not_true, Bool.not_false] at h10
    have hlt : k < l.length := by omega
    obtain ⟨hoa, hcl, hb⟩ := h1.int hlt
    refine cw_skip ?_
    refine pq_then ?_
    refine cw_seq ?_
    refine cw_block ?_
    refine cw_seq ?_
    refine cw_region ?_
    -- r3.0 t11 := move  t9
    refine ol_pure rfl (op_move rfl) ?_
    -- r3.1 t12 := indexAddr [29] t7 t9
    refine ol_pure rfl (op_indexN sl_29 rfl rfl (by omega) (by assumption)) ?_
    -- r3.2 t13 := load [3] t12
    refine ol_load rfl (op_load1 one_3 rfl (fun w hw => by first | exact hw.gcell (by assumption) | exact hw.gcell0 (by assumption))) hS ?_
    -- r3.3 t5 := assign  t11
    refine ol_pure rfl (op_assign rfl) ?_
    -- r3.4 t6 := assign  t13
    refine ol_pure rfl (op_assign rfl) ?_
    refine ol_nil ?_
    refine pq_then ?_
    refine cw_seq ?_
    refine cw_region ?_
    -- r4.0 t14 := move  t6
    refine ol_pure rfl (op_move rfl) ?_
    -- r4.1 t15 := lss t14 C0
    refine ol_pure rfl (op_lss rfl rfl) ?_
    -- r4.2 t16 := move  t15
    refine ol_pure rfl (op_move rfl) ?_
    refine ol_split (fun h16 => ?_) (fun h16 => ?_)
    · skip
      try simp only [decide_eq_true_eq, decide_eq_false_iff_not, Bool.not_eq_true', Bool.not_eq_false', Bool.not_eq_eq_eq_not, Bool.not_true, Bool.not_false] at h16
      refine ol_guard_no rfl rfl rfl rfl ?_
      refine ol_guard_no rfl rfl rfl rfl ?_
      refine ol_guard_no rfl rfl rfl rfl ?_
      refine ol_guard_no rfl rfl rfl rfl ?_
      refine ol_guard_no rfl rfl rfl rfl ?_
      refine ol_guard_no rfl rfl rfl rfl ?_
      refine ol_guard_no rfl rfl rfl rfl ?_
      -- r4.10 t24 := pick  t16 Ctrue t23
      refine ol_pure rfl (op_pick_t rfl rfl) ?_
      -- r4.11 t25 := move  t24
      refine ol_pure rfl (op_move rfl) ?_
      refine ol_guard_no rfl rfl rfl rfl ?_
      refine ol_guard_no rfl rfl rfl rfl ?_
      refine ol_guard_no rfl rfl rfl rfl ?_
      refine ol_guard_no rfl rfl rfl rfl ?_
      refine ol_guard_no rfl rfl rfl rfl ?_
      refine ol_guard_no rfl rfl rfl rfl ?_
      refine ol_guard_no rfl rfl rfl rfl ?_
      refine ol_guard_no rfl rfl rfl rfl ?_
      -- r4.20 t34 := pick  t25 Ctrue t33
      refine ol_pure rfl (op_pick_t rfl rfl) ?_
      -- r4.21 t35 := move  t34
      refine ol_pure rfl (op_move rfl) ?_
      refine ol_guard_no rfl rfl rfl rfl ?_
      refine ol_guard_no rfl rfl rfl rfl ?_
      refine ol_guard_no rfl rfl rfl rfl ?_
      refine ol_guard_undef rfl rfl rfl ?_
      refine ol_guard_undef rfl rfl rfl ?_
      refine ol_guard_undef rfl rfl rfl ?_
      refine ol_guard_undef rfl rfl rfl ?_
      refine ol_guard_undef rfl rfl rfl ?_
      refine ol_guard_undef rfl rfl rfl ?_
      refine ol_guard_undef rfl rfl rfl ?_
      refine ol_guard_no rfl rfl rfl rfl ?_
      -- r4.33 t47 := pick  t35 Ctrue t46
      refine ol_pure rfl (op_pick_t rfl rfl) ?_
      refine ol_nil ?_
      refine pq_then ?_
      refine cw_cond_t rfl ?_
      refine cw_seq ?_
      refine cw_region ?_
      -- r5.0 t4 := assign  Cfalse
      refine ol_pure rfl (op_assign rfl) ?_
      refine ol_nil ?_
      refine pq_then ?_
      refine cw_ret ?_
      refine pq_in_ret ?_
      refine pq_ret ?_
      refine pq_ret ?_
      refine pq_in_ret ?_
      refine pq_ret ?_
      refine ret1 rfl rfl ?_
      -- ret1 h10t h16t
      exact hS.sc_b (by rw [setOpen, Pl.all_false_at (fun a => decide (0 ≤ a) && decide (a < (m.length : Int)) && decide (valI m a = 1)) _ _ hlt (by simp; omega)]; rfl)
    · skip
      try simp only [decide_eq_true_eq, decide_eq_false_iff_not, Bool.not_eq_true', Bool.not_eq_false', Bool.not_eq_eq_eq_not, Bool.not_true, Bool.not_false] at h16
      -- r4.3 t17 := move  t6 ?2=False
      refine ol_guard_pure rfl rfl rfl (op_move rfl) ?_
      -- r4.4 t18 := move  t0 ?2=False
      refine ol_guard_pure rfl rfl rfl (op_move rfl) ?_
      -- r4.5 t19 := nilCheck  t18 ?2=False
      refine ol_guard_pure rfl rfl rfl (op_nilCheck rfl) ?_
      -- r4.6 t20 := fieldAddr [56, 1] t19 ?2=False
      refine ol_guard_pure rfl rfl rfl (op_fieldAddr fld_56_1 rfl) ?_
      -- r4.7 t21 := load [29] t20 ?2=False
      refine ol_guard_load rfl rfl rfl (op_load1 one_29 rfl (fun w hw => hw.gcell hc.c2)) hS ?_
      -- r4.8 t22 := call len t21 ?2=False
      refine ol_guard_pure rfl rfl rfl (op_len sl_29 rfl rfl) ?_
      -- r4.9 t23 := geq t17 t22 ?2=False
      refine ol_guard_pure rfl rfl rfl (op_geq rfl rfl) ?_
      -- r4.10 t24 := pick  t16 Ctrue t23
      refine ol_pure rfl (op_pick_f rfl rfl) ?_
      -- r4.11 t25 := move  t24
      refine ol_pure rfl (op_move rfl) ?_
      refine ol_split (fun h25 => ?_) (fun h25 => ?_)
      · skip
        try simp only [decide_eq_true_eq, decide_eq_false_iff_not, Bool.not_eq_true', Bool.not_eq_false', Bool.not_eq_eq_eq_not, Bool.not_true, Bool.not_false] at h25
        refine ol_guard_no rfl rfl rfl rfl ?_
        refine ol_guard_no rfl rfl rfl rfl ?_
        refine ol_guard_no rfl rfl rfl rfl ?_
        refine ol_guard_no rfl rfl rfl rfl ?_
        refine ol_guard_no rfl rfl rfl rfl ?_
        refine ol_guard_no rfl rfl rfl rfl ?_
        refine ol_guard_no rfl rfl rfl rfl ?_
        refine ol_guard_no rfl rfl rfl rfl ?_
        -- r4.20 t34 := pick  t25 Ctrue t33
        refine ol_pure rfl (op_pick_t rfl rfl) ?_
        -- r4.21 t35 := move  t34
        refine ol_pure rfl (op_move rfl) ?_
        refine ol_guard_no rfl rfl rfl rfl ?_
        refine ol_guard_no rfl rfl rfl rfl ?_
        refine ol_guard_no rfl rfl rfl rfl ?_
        refine ol_guard_undef rfl rfl rfl ?_
        refine ol_guard_undef rfl rfl rfl ?_
        refine ol_guard_undef rfl rfl rfl ?_
        refine ol_guard_undef rfl rfl rfl ?_
        refine ol_guard_undef rfl rfl rfl ?_
        refine ol_guard_undef rfl rfl rfl ?_
        refine ol_guard_undef rfl rfl rfl ?_
        refine ol_guard_no rfl rfl rfl rfl ?_
        -- r4.33 t47 := pick  t35 Ctrue t46
        refine ol_pure rfl (op_pick_t rfl rfl) ?_
        refine ol_nil ?_
        refine pq_then ?_
        refine cw_cond_t rfl ?_
        refine cw_seq ?_
        refine cw_region ?_
        -- r5.0 t4 := assign  Cfalse
        refine ol_pure rfl (op_assign rfl) ?_
        refine ol_nil ?_
        refine pq_then ?_
        refine cw_ret ?_
        refine pq_in_ret ?_
        refine pq_ret ?_
        refine pq_ret ?_
        refine pq_in_ret ?_
        refine pq_ret ?_
        refine ret1 rfl rfl ?_
        -- ret1 h10t h16f h25t
        exact hS.sc_b (by rw [setOpen, Pl.all_false_at (fun a => decide (0 ≤ a) && decide (a < (m.length : Int)) && decide (valI m a = 1)) _ _ hlt (by simp; omega)]; rfl)
      · skip
        try simp only [decide_eq_true_eq, decide_eq_false_iff_not, Bool.not_eq_true', Bool.not_eq_false', Bool.not_eq_eq_eq_not, Bool.not_true, Bool.not_false] at h25
        obtain ⟨j, hj⟩ := Int.eq_ofNat_of_zero_le (show 0 ≤ l[k] by omega)
        have hjm : j < m.length := by omega
        obtain ⟨hoT, hcT, _⟩ := hTo.int hjm
        have hvj : valI m l[k] = m[j] := by rw [hj]; exact val_at hjm
        -- r4.12 t26 := move  t0 ?11=False
        refine ol_guard_pure rfl rfl rfl (op_move rfl) ?_
        -- r4.13 t27 := nilCheck  t26 ?11=False
        refine ol_guard_pure rfl rfl rfl (op_nilCheck rfl) ?_
        -- r4.14 t28 := fieldAddr [56, 1] t27 ?11=False
        refine ol_guard_pure rfl rfl rfl (op_fieldAddr fld_56_1 rfl) ?_
        -- r4.15 t29 := load [29] t28 ?11=False
        refine ol_guard_load rfl rfl rfl (op_load1 one_29 rfl (fun w hw => hw.gcell hc.c2)) hS ?_
        -- r4.16 t30 := move  t6 ?11=False
        refine ol_guard_pure rfl rfl rfl (op_move rfl) ?_
        -- r4.17 t31 := indexAddr [29] t29 t30 ?11=False
        refine ol_guard_pure rfl rfl rfl (op_indexAddr sl_29 rfl rfl (by omega) (by omega) hoT) ?_
        -- r4.18 t32 := load [3] t31 ?11=False
        refine ol_guard_load rfl rfl rfl (op_load1 one_3 rfl (fun w hw => hw.gcell (by rw [hj]; exact hcT))) hS ?_
        -- r4.19 t33 := neq t32 C1 ?11=False
        refine ol_guard_pure rfl rfl rfl (op_neq rfl rfl) ?_
        -- r4.20 t34 := pick  t25 Ctrue t33
        refine ol_pure rfl (op_pick_f rfl rfl) ?_
        -- r4.21 t35 := move  t34
        refine ol_pure rfl (op_move rfl) ?_
        refine ol_split (fun h35 => ?_) (fun h35 => ?_)
        · skip
          try simp only [decide_eq_true_eq, decide_eq_false_iff_not, Bool.not_eq_true', Bool.not_eq_false', Bool.not_eq_eq_eq_not, Bool.not_true, Bool.not_false] at h35
          refine ol_guard_no rfl rfl rfl rfl ?_
          refine ol_guard_no rfl rfl rfl rfl ?_
          refine ol_guard_no rfl rfl rfl rfl ?_
          refine ol_guard_undef rfl rfl rfl ?_
          refine ol_guard_undef rfl rfl rfl ?_
          refine ol_guard_undef rfl rfl rfl ?_
          refine ol_guard_undef rfl rfl rfl ?_
          refine ol_guard_undef rfl rfl rfl ?_
          refine ol_guard_undef rfl rfl rfl ?_
          refine ol_guard_undef rfl rfl rfl ?_
          refine ol_guard_no rfl rfl rfl rfl ?_
          -- r4.33 t47 := pick  t35 Ctrue t46
          refine ol_pure rfl (op_pick_t rfl rfl) ?_
          refine ol_nil ?_
          refine pq_then ?_
          refine cw_cond_t rfl ?_
          refine cw_seq ?_
          refine cw_region ?_
          -- r5.0 t4 := assign  Cfalse
          refine ol_pure rfl (op_assign rfl) ?_
          refine ol_nil ?_
          refine pq_then ?_
          refine cw_ret ?_
          refine pq_in_ret ?_
          refine pq_ret ?_
          refine pq_ret ?_
          refine pq_in_ret ?_
          refine pq_ret ?_
          refine ret1 rfl rfl ?_
          -- ret1 h10t h16f h25f h35t
          exact hS.sc_b (by rw [setOpen, Pl.all_false_at (fun a => decide (0 ≤ a) && decide (a < (m.length : Int)) && decide (valI m a = 1)) _ _ hlt (by rw [hvj]; simp; omega)]; rfl)
        · skip
          try simp only [decide_eq_true_eq, decide_eq_false_iff_not, Bool.not_eq_true', Bool.not_eq_false', Bool.not_eq_eq_eq_not, Bool.not_true, Bool.not_false] at h35
          -- r4.22 t36 := move  t5 ?21=False
          refine ol_guard_pure rfl rfl rfl (op_move rfl) ?_
          -- r4.23 t37 := gtr t36 C0 ?21=False
          refine ol_guard_pure rfl rfl rfl (op_gtr rfl rfl) ?_
          -- r4.24 t38 := move  t37 ?21=False
          refine ol_guard_pure rfl rfl rfl (op_move rfl) ?_
          refine ol_split (fun h38 => ?_) (fun h38 => ?_)
          · skip
            try simp only [decide_eq_true_eq, decide_eq_false_iff_not, Bool.not_eq_true', Bool.not_eq_false', Bool.not_eq_eq_eq_not, Bool.not_true, Bool.not_false] at h38
            have hk1 : k - 1 < l.length := by omega
            obtain ⟨_, hc2', _⟩ := h1.int hk1
            have hc2 : gcell G (elA oa (((k : Int) - 1).toNat * 1)) = some (.int .i64 l[k - 1]) := by rw [show ((k : Int) - 1).toNat = k - 1 from by omega]; exact hc2'
            -- r4.25 t39 := move  t1 ?24=True
            refine ol_guard_pure rfl rfl rfl (op_move rfl) ?_
            -- r4.26 t40 := move  t5 ?24=True
            refine ol_guard_pure rfl rfl rfl (op_move rfl) ?_
            -- r4.27 t41 := sub t40 C1 ?24=True
            refine ol_guard_pure rfl rfl rfl (op_sub rfl rfl (by omega) (by omega)) ?_
            -- r4.28 t42 := indexAddr [29] t39 t41 ?24=True
            refine ol_guard_pure rfl rfl rfl (op_indexAddr sl_29 rfl rfl (by omega) (by omega) (by assumption)) ?_
            -- r4.29 t43 := load [3] t42 ?24=True
            refine ol_guard_load rfl rfl rfl (op_load1 one_3 rfl (fun w hw => hw.gcell hc2)) hS ?_
            -- r4.30 t44 := move  t6 ?24=True
            refine ol_guard_pure rfl rfl rfl (op_move rfl) ?_
            -- r4.31 t45 := geq t43 t44 ?24=True
            refine ol_guard_pure rfl rfl rfl (op_geq rfl rfl) ?_
            -- r4.32 t46 := pick  t38 t45 Cfalse ?21=False
            refine ol_guard_pure rfl rfl rfl (op_pick_t rfl rfl) ?_
            -- r4.33 t47 := pick  t35 Ctrue t46
            refine ol_pure rfl (op_pick_f rfl rfl) ?_
            refine ol_nil ?_
            refine pq_then ?_
            refine cw_cond rfl (fun h47 => ?_) (fun h47 => ?_)
            · skip
              try simp only [decide_eq_true_eq, decide_eq_false_iff_not, Bool.not_eq_true', Bool.not_eq_false', Bool.not_eq_eq_eq_not, Bool.not_true, Bool.not_false] at h47
              refine cw_seq ?_
              refine cw_region ?_
              -- r5.0 t4 := assign  Cfalse
              refine ol_pure rfl (op_assign rfl) ?_
              refine ol_nil ?_
              refine pq_then ?_
              refine cw_ret ?_
              refine pq_in_ret ?_
              refine pq_ret ?_
              refine pq_ret ?_
              refine pq_in_ret ?_
              refine pq_ret ?_
              refine ret1 rfl rfl ?_
              -- ret1 h10t h16f h25f h35f h38t h47t
              exact hS.sc_b (by rw [setOpen, decide_eq_false (Pl.not_pairwise_at hlt (by omega) (by omega)), Bool.and_false, Bool.false_and])
            · skip
              try simp only [decide_eq_true_eq, decide_eq_false_iff_not, Bool.not_eq_true', Bool.not_eq_false', Bool.not_eq_eq_eq_not, Bool.not_true, Bool.not_false] at h47
              refine cw_skip ?_
              refine pq_in_normal ?_
              refine pq_then ?_
              refine cw_region ?_
              -- r6.0 t48 := add t9 C1
              refine ol_pure rfl (op_add rfl rfl (by omega) (by omega)) ?_
              -- r6.1 t9 := move  t48
              refine ol_pure rfl (op_move rfl) ?_
              refine ol_nil ?_
              -- end of round 1 h10t h16f h25f h35f h38t h47f
              refine pq_loop _ _ (by exact ⟨k + 1, rfl, by omega, rfl, by rw [Pl.all_take_succ (fun a => decide (0 ≤ a) && decide (a < (m.length : Int)) && decide (valI m a = 1)) _ _ hlt, hp, hvj]; simp; omega, Pl.pairwise_take_succ hlt hq (.inr ⟨by omega, by omega⟩), hS⟩) ((Sub.cons rfl (Sub.cons rfl (Sub.cons rfl (Sub.cons rfl (Sub.cons rfl Sub.nil)))))) (by omega)
          · skip
            try simp only [decide_eq_true_eq, decide_eq_false_iff_not, Bool.not_eq_true', Bool.not_eq_false', Bool.not_eq_eq_eq_not, Bool.not_true, Bool.not_false] at h38
            refine ol_guard_no rfl rfl rfl rfl ?_
            refine ol_guard_no rfl rfl rfl rfl ?_
            refine ol_guard_no rfl rfl rfl rfl ?_
            refine ol_guard_no rfl rfl rfl rfl ?_
            refine ol_guard_no rfl rfl rfl rfl ?_
            refine ol_guard_no rfl rfl rfl rfl ?_
            refine ol_guard_no rfl rfl rfl rfl ?_
            -- r4.32 t46 := pick  t38 t45 Cfalse ?21=False
            refine ol_guard_pure rfl rfl rfl (op_pick_f rfl rfl) ?_
            -- r4.33 t47 := pick  t35 Ctrue t46
            refine ol_pure rfl (op_pick_f rfl rfl) ?_
            refine ol_nil ?_
            refine pq_then ?_
            refine cw_cond_f rfl ?_
            refine cw_skip ?_
            refine pq_in_normal ?_
            refine pq_then ?_
            refine cw_region ?_
            -- r6.0 t48 := add t9 C1
            refine ol_pure rfl (op_add rfl rfl (by omega) (by omega)) ?_
            -- r6.1 t9 := move  t48
            refine ol_pure rfl (op_move rfl) ?_
            refine ol_nil ?_
            -- end of round 1 h10t h16f h25f h35f h38f
            refine pq_loop _ _ (by exact ⟨k + 1, rfl, by omega, rfl, by rw [Pl.all_take_succ (fun a => decide (0 ≤ a) && decide (a < (m.length : Int)) && decide (valI m a = 1)) _ _ hlt, hp, hvj]; simp; omega, Pl.pairwise_take_succ hlt hq (.inl (by omega)), hS⟩) ((Sub.cons rfl (Sub.cons rfl (Sub.cons rfl (Sub.cons rfl (Sub.cons rfl Sub.nil)))))) (by omega)
  · skip
    try simp only [decide_eq_true_eq, decide_eq_false_iff_not, Bool.not_eq_true', Bool.not_eq_false', Bool.not_eq_eq_eq_not, Bool.not_true, Bool.not_false] at h10
    refine cw_exit ?_
    refine pq_exit ?_
    refine pq_exit ?_
    refine pq_in_exit ?_
    refine pq_then ?_
    refine cw_seq ?_
    refine cw_region ?_
    -- r7.0 t49 := move  t1
    refine ol_pure rfl (op_move rfl) ?_
    -- r7.1 t50 := call len t49
    refine ol_pure rfl (op_len sl_29 rfl rfl) ?_
    -- r7.2 t51 := gtr t50 C0
    refine ol_pure rfl (op_gtr rfl rfl) ?_
    -- r7.3 t4 := assign  t51
    refine ol_pure rfl (op_assign rfl) ?_
    refine ol_nil ?_
    refine pq_then ?_
    refine cw_ret ?_
    refine ret1 rfl rfl ?_
    -- ret2 h10f
    rw [List.take_of_length_le (by omega)] at hp hq
    exact hS.sc_b (by rw [setOpen, hp, decide_eq_true hq]; simp)
end Go.Proofs.Ytbpmkidaoemebaa.K
