/-
  Heaps that are made of any ops.
  No condition but the premises that each theorem names.
-/
import Derived.Test.YtnmkffkalnkbbaaHpa
import Derived.Test.YtnmkffkalnkbbaaHp5
import Derived.Test.YtnmkffkalnkbbaaGc4
import Derived.Test.YtnmkffkalnkbbaaPhj
namespace Go.Proofs.Ytnmkffkalnkbbaa.K
open Go Go.RowKit
set_option linter.unusedVariables false
set_option linter.unusedSimpArgs false

open Pl
theorem wrap_u8 {a : Int} (h : 0 ≤ a ∧ a ≤ 255) : IntKind.i64.wrap a = a := by
  simp [IntKind.wrap, IntKind.signed, IntKind.bits]
  omega
theorem mapset {f : Cell → Cell} {t : List Cell} {k : Nat} (h : k < t.length) : ((t.take k).map f ++ t.drop k).set k (f t[k]) = (t.take (k + 1)).map f ++ t.drop (k + 1) := by
  have hl : ((t.take k).map f).length = k := by simp; omega
  rw [List.set_append_right _ _ (by omega), hl, Nat.sub_self, List.drop_eq_getElem_cons h, List.set_cons_zero, List.take_succ_eq_append_getElem h, List.map_append, List.append_assoc]
  rfl
theorem mapset_at {f : Cell → Cell} {t : List Cell} {k : Nat} (h : k < t.length) : ((t.take k).map f ++ t.drop k)[k]? = some t[k] := by
  have hl : ((t.take k).map f).length = k := by simp; omega
  rw [List.getElem?_append_right (by omega), hl, Nat.sub_self, List.getElem?_drop, Nat.add_zero, List.getElem?_eq_getElem h]
theorem mapset_len {f : Cell → Cell} {t : List Cell} {k : Nat} (h : k ≤ t.length) : ((t.take k).map f ++ t.drop k).length = t.length := by
  simp
  omega
def EOp : ER (Int × List Cell × Int × Int) := fun G cs x => ∃ v, cs = [.int .i64 x.1, v, .int .u8 x.2.2.1, .int .u8 x.2.2.2] ∧ RSl 3 ECell G v x.2.1 ∧ (-9223372036854775808 ≤ x.1 ∧ x.1 ≤ 9223372036854775807) ∧ (0 ≤ x.2.2.1 ∧ x.2.2.1 ≤ 255) ∧ 0 ≤ x.2.2.2 ∧ x.2.2.2 ≤ 255
theorem EOp.mono : EMono EOp := fun _ _ _ _ hl ⟨v, h1, h2, h3⟩ => ⟨v, h1, h2.mono ECell.mono hl, h3⟩
/-- What is made, read. -/
def MadeR (cs : List Cell) (tr ats : List Int) (ms : List Mk) (G : GH) (v : Value) : Prop := ∃ oc cc ot ct oA cA oM cM, v = .agg #[.slice oc cs.length cc, .slice ot tr.length ct, .int .i64 400, .slice oA ats.length cA, .slice oM ms.length cM] ∧ RSl 3 ECell G (.slice oc cs.length cc) cs ∧ RSl 1 EInt G (.slice ot tr.length ct) tr ∧ RSl 1 EInt G (.slice oA ats.length cA) ats ∧ RSl 3 EMk G (.slice oM ms.length cM) ms
theorem MadeR.mono {cs : List Cell} {tr ats : List Int} {ms : List Mk} {G1 G2 : GH} {v : Value} (hl : Le G1 G2) (h : MadeR cs tr ats ms G1 v) : MadeR cs tr ats ms G2 v := by
  obtain ⟨oc, cc, ot, ct, oA, cA, oM, cM, h1, h2, h3, h4, h5⟩ := h
  exact ⟨oc, cc, ot, ct, oA, cA, oM, cM, h1, h2.mono ECell.mono hl, h3.mono EInt.mono hl, h4.mono EInt.mono hl, h5.mono EMk.mono hl⟩

set_option maxRecDepth 100000 in
set_option maxHeartbeats 1000000 in

theorem R09_Low_c (G : GH) (w0 : World) (hG : Holds G w0) (v : Value) (t : List Cell) (h2 : RSl 3 ECell G v t) (hn : t.length ≤ 1000000) :
   Calls Try.prog 31 #[v] w0 (Rt noG w0 (fun G v => RSl 3 ECell G v (lowI t))) := by
 obtain ⟨oa, ca, rfl, _, _⟩ := h2.elim
 refine enter Try.func31 rfl (N := 31) rfl (Nat.le_of_ble_eq_true rfl) ?_
 have hS := SS.init hG
 refine cw_seq (cw_region (ol_pure rfl (op_assign rfl) (ol_nil (pq_then (cw_seq (cw_region ?_))))))
 refine ol_step rfl (op_buildSlice (el := 58) (is := []) (xs := []) (sz := 3) (cs := []) hS rfl rfl (fun w => by kernel_rfl) rfl (by decide)) ?_
 clear hS
 rintro _ w ⟨o3, rfl, hS⟩
 refine ol_pure rfl (op_move rfl) ?_
 refine ol_step rfl (op_append (j := 0) (m := t.length) (news := cellsV t) hS sl_59 el_58 rfl rfl rfl rfl rfl (cellsV_len t) (by decide) (h2.newsC hS.hold) (ones_c t) (by omega) (by unfold maxLen; omega)) ?_
 clear hS
 rintro _ w ⟨oq, c_oq, rfl, hS⟩; (try simp only [List.nil_append, List.cons_append, List.set] at hS)
 rw [Nat.zero_add] at hS
 refine ol_pure rfl (op_assign rfl) (ol_nil (pq_then (cw_seq (cw_seq (cw_region (ol_pure rfl (op_assign rfl) (ol_nil ?_)))))))
 refine pq_then (cw_block ?_)
 refine cw_loop (fun e w n => ∃ (k : Nat) (oO : Option Addr) (l5 cO : Nat), e = [(3, .slice oO l5 cO), (4, .int .i64 (k : Nat))] ∧ l5 = t.length ∧ k ≤ t.length ∧ n = t.length - k ∧ SS G w0 G [.row oO t.length cO 58 3 (cellsV ((t.take k).map lowC ++ t.drop k))] w) _ _ (by exact ⟨0, oq, 0 + t.length, _, rfl, Nat.zero_add _, Nat.zero_le _, rfl, hS⟩) ((Sub.cons rfl (Sub.cons rfl Sub.nil))) ?_
 clear hS
 rintro e w n ⟨k, oO, l5, cO, rfl, rfl, hk, rfl, hS⟩
 refine cw_seq (cw_seq (cw_region (ol_pure rfl (op_move rfl) (ol_pure rfl (op_move rfl) (ol_pure rfl (op_len sl_59 rfl rfl) (ol_pure rfl (op_lss rfl rfl) (ol_nil ?_)))))))
 refine pq_then ?_
 refine cw_cond rfl (fun h11 => ?_) (fun h11 => ?_)
 ·
  try simp only [dqT, dqF, dq1, dq2, dq3, dq4, dq5] at h11
  have hlt : k < t.length := by omega
  have hat := mapset_at (f := lowC) hlt
  have hln := mapset_len (f := lowC) (t := t) (k := k) (by omega)
  have hce : ∀ r, r < 3 → (cellsV ((t.take k).map lowC ++ t.drop k))[k * 3 + r]? = (cellV t[k])[r]? := fun r hr => cellsV_el hat hr
  have hok := (hS.news (j := 0) rfl (k * 3 + 0) _ (hce 0 (by omega))).1
  have hst := mapset (f := lowC) hlt
  refine cw_skip (pq_then (cw_seq (cw_block (cw_seq (cw_region (ol_pure rfl (op_move rfl) (ol_pure rfl (op_move rfl) ?_)))))))
  refine ol_pure rfl (op_indexN (n := t.length) sl_59 rfl rfl hlt hok) (ol_pure rfl (op_fieldAddr fld_58_0 rfl) (ol_load rfl (op_load1 one_3 rfl (fun w hw => hw.rcellF (j := 0) (i := k * 3) (f := 0) rfl (hce 0 (by omega)))) hS (ol_pure rfl (op_eql rfl rfl) (ol_nil (pq_then ?_)))))
  refine cw_cond rfl (fun h19 => ?_) (fun h19 => ?_)
  ·
   try simp only [dqT, dqF, dq1, dq2, dq3, dq4, dq5] at h19
   have hmv : lowC t[k] = ⟨t[k].kind, t[k].name, t[k].n % 8⟩ := by rw [lowC, if_pos h19]
   refine cw_region (ol_pure rfl (op_move rfl) (ol_pure rfl (op_move rfl) (ol_pure rfl (op_move rfl) (ol_pure rfl (op_move rfl) (ol_pure rfl (op_indexN (n := t.length) sl_59 rfl rfl hlt hok) (ol_pure rfl (op_fieldAddr fld_58_2 rfl) (ol_load rfl (op_load1 one_3 rfl (fun w hw => hw.rcellF (j := 0) (i := k * 3) (f := 2) rfl (hce 2 (by omega)))) hS ?_)))))))
   refine ol_pure rfl (op_val (v' := .int .i64 (t[k].n % 8)) (op_and rfl rfl) (congrArg (Value.int .i64) (and7 _))) (ol_pure rfl (op_indexN (n := t.length) sl_59 rfl rfl hlt hok) (ol_pure rfl (op_fieldAddr fld_58_2 rfl) ?_))
   refine ol_step0  (op_storeRF (j := 0) (i := k * 3) (f := 2) hS sz_3 rfl rfl rfl rfl (by rw [cellsV_len, hln]; omega)) ?_
   clear hS
   rintro _ w hS; (try simp only [List.nil_append, List.cons_append, List.set] at hS)
   have hgk : (((t.take k).map lowC ++ t.drop k))[k]'(by rw [hln]; exact hlt) = t[k] := (List.getElem?_eq_some_iff.1 hat).2
   rw [cellsV_setN (by rw [hln]; exact hlt), hgk, ← hmv, hst] at hS
   refine ol_nil (pq_in_normal (pq_then (cw_region (ol_pure rfl (op_move rfl) (ol_pure rfl (op_add rfl rfl (by omega) (by omega)) (ol_pure rfl (op_assign rfl) (ol_nil ?_)))))))
   refine pq_loop _ _ (by exact ⟨k + 1, oO, _, cO, rfl, rfl, by omega, rfl, hS⟩) ((Sub.cons rfl (Sub.cons rfl Sub.nil))) (by omega)
  ·
   try simp only [dqT, dqF, dq1, dq2, dq3, dq4, dq5] at h19
   refine cw_skip (pq_in_normal (pq_then (cw_region (ol_pure rfl (op_move rfl) (ol_pure rfl (op_add rfl rfl (by omega) (by omega)) (ol_pure rfl (op_assign rfl) (ol_nil ?_)))))))
   refine pq_loop _ _ (by exact ⟨k + 1, oO, _, cO, rfl, rfl, by omega, rfl, by rw [← hst, lowC, if_neg h19]; rw [show (((t.take k).map lowC ++ t.drop k)).set k t[k] = ((t.take k).map lowC ++ t.drop k) from set_self hat]; exact hS⟩) ((Sub.cons rfl (Sub.cons rfl Sub.nil))) (by omega)
 ·
  try simp only [dqT, dqF, dq1, dq2, dq3, dq4, dq5] at h11
  refine cw_exit (pq_exit (pq_exit (pq_in_exit (pq_then (cw_seq (cw_region (ol_pure rfl (op_move rfl) ?_)))))))
  refine ol_pure rfl (op_assign rfl) (ol_nil (pq_then (cw_ret (ret1 rfl rfl ?_))))
  obtain rfl : k = t.length := by omega
  rw [List.take_length, List.drop_length, List.append_nil] at hS
  refine SS.rt_cells [] hS (fun c hc => ?_) (by simp [lowI])
  obtain ⟨d, hd, rfl⟩ := List.mem_map.1 hc
  have hb := h2.cellBd d hd
  unfold lowC
  split
  · exact ⟨hb.1, by simp only; omega, hb.2.2⟩
  · exact hb
theorem and1' (x : Int) : bits .and .i64 x 1 = x % 2 := andM x (m := 1) 2 rfl (by decide) (by decide) (by decide)
theorem and3' (x : Int) : bits .and .i64 x 3 = x % 4 := andM x (m := 2) 4 rfl (by decide) (by decide) (by decide)
theorem mod_nat {a : Int} {n : Nat} (h0 : 0 ≤ a) (hn : 0 < n) : ∃ i : Nat, a % (n : Int) = i ∧ i < n := by
  have h1 := Int.emod_nonneg a (show (n : Int) ≠ 0 by omega)
  have h2 := Int.emod_lt_of_pos a (show (0 : Int) < n by omega)
  exact ⟨(a % (n : Int)).toNat, by omega, by omega⟩
theorem MadeI.up {k : Nat} {cs : List Cell} {tr ats vars : List Int} {ms : List Mk} (h : MadeI k cs tr ats vars ms) : ∀ d, MadeI (k + d) cs tr ats vars ms
  | 0 => h
  | d + 1 => (MadeI.up h d).mono
theorem sq_le {n : Nat} (h : n ≤ 400) : 7 * (n * n) + 1 ≤ 10000000 := by
  have := Nat.mul_le_mul h h
  omega

set_option maxRecDepth 100000 in
set_option maxHeartbeats 4000000 in

theorem R09_Made_c (G : GH) (w0 : World) (hG : Holds G w0) (v : Value) (l : List (Int × List Cell × Int × Int)) (h1 : RSl 4 EOp G v l) :
   Calls Try.prog 12 #[v] w0 (Rt G w0 (fun G v => ∃ cs tr ats ms vars, MadeR cs tr ats ms G v ∧ MadeI 20 cs tr ats vars ms)) := by
 obtain ⟨oa, ca, rfl, _, _⟩ := h1.elim
 have hle := h1.le
 refine enter Try.func12 rfl (N := 124) rfl (Nat.le_of_ble_eq_true rfl) ?_
 have hS := SS.init hG
 refine cw_seq (cw_region ?_)
 refine ol_step rfl (op_alloc hS el_31 rfl) ?_
 clear hS
 rintro _ w ⟨b2, rfl, hS⟩
 refine ol_nil (pq_then (cw_seq (cw_region ?_)))
 refine ol_step rfl (op_call_sc hS cf_29 rfl (R08_New_c _ _ hS.hold 400 (by decide) (by decide))) ?_
 clear hS
 rintro _ w ⟨rfl, hS⟩
 refine ol_pure rfl (op_build (is := [0]) (xs := [.tmp 16]) (v := .agg #[.slice none 0 0, .slice none 0 0, .int .i64 400, .slice none 0 0, .slice none 0 0]) rfl rfl (fun w => by kernel_rfl)) ?_
 refine ol_step rfl (op_buildSlice (el := 3) (is := []) (xs := []) (sz := 1) (cs := []) hS rfl rfl (fun w => by kernel_rfl) rfl (by decide)) ?_
 clear hS
 rintro _ w ⟨s18, rfl, hS⟩
 obtain ⟨G18, hl18, hS18, hV⟩ := SS.give' ([] : List Int) [] EInt.mono hS (by decide) ((Rows.ints (l := []) (by decide)).mono EInt.mono (fun b o hb => by cases hb)) rfl
 clear hS
 have hS := hS18
 clear hS18
 (try simp only [List.nil_append, List.cons_append] at hS)
 refine ol_step rfl (op_alloc hS el_31 rfl) ?_
 clear hS
 rintro _ w ⟨b3, rfl, hS⟩
 refine ol_step0  (op_storeN (j := 0) hS sz_31 rfl rfl rfl rfl rfl (by simp [Value.oneCell'])) ?_
 clear hS
 rintro _ w hS; (try simp only [List.nil_append, List.cons_append, List.set] at hS)
 refine ol_pure rfl (op_assign rfl) (ol_nil (pq_then (cw_seq (cw_seq ?_))))
 replace hS := SS.ins [_] hS 46 3
 simp only [List.nil_append, List.cons_append] at hS
 replace hS := SS.ins [] hS 3 1
 simp only [List.nil_append, List.cons_append] at hS
 have hM0 := MadeI.start
 refine cw_region (ol_pure rfl (op_assign rfl) (ol_nil (pq_then (cw_block ?_))))
 refine cw_loop (fun e w n => ∃ (k : Nat) (Gk : GH) (cs : List Cell) (tr ats vars : List Int) (ms : List Mk) (us : List Value) (oc ot oA oM oV : Option Addr) (cc ct cA cM cV : Nat), e = [(0, .slice oa l.length ca), (2, .pointer (some ⟨b2, 0, none⟩)), (3, .pointer (some ⟨b3, 0, none⟩)), (4, .slice oV vars.length cV), (5, .int .i64 (k : Nat))] ∧ k ≤ l.length ∧ k ≤ 20 ∧ n = l.length - k ∧ Le G Gk ∧ MadeI k cs tr ats vars ms ∧ RSl 3 ECell Gk (.slice oc cs.length cc) cs ∧ RSl 1 EInt Gk (.slice ot tr.length ct) tr ∧ RSl 1 EInt Gk (.slice oV vars.length cV) vars ∧ Rows 3 EMk Gk us ms ∧ SS G w0 Gk [.row oA ats.length cA 3 1 (ats.map (Value.int .i64)), .blk b3 31 [.slice oc cs.length cc, .slice ot tr.length ct, .int .i64 400, .slice oA ats.length cA, .slice oM ms.length cM], .row oM ms.length cM 46 3 us, .blk b2 31 [.slice none 0 0, .slice none 0 0, .int .i64 0, .slice none 0 0, .slice none 0 0]] w) _ _ (by exact ⟨0, G18, [], [], [], [], [], [], none, none, none, none, s18, 0, 0, 0, 0, 0, rfl, Nat.zero_le _, Nat.zero_le _, rfl, hl18, hM0, RSl.nil _, RSl.nil _, hV, Rows.nil _, hS⟩) ((Sub.cons rfl (Sub.cons rfl (Sub.cons rfl (Sub.cons rfl (Sub.cons rfl Sub.nil)))))) ?_
 clear hS
 rintro e w n ⟨k, Gk, cs, tr, ats, vars, ms, us, oc, ot, oA, oM, oV, cc, ct, cA, cM, cV, rfl, hk, hk20, rfl, hlk, hMd, hC, hTq, hV, hus, hS⟩
 refine cw_seq (cw_seq (cw_region (ol_pure rfl (op_move rfl) (ol_pure rfl (op_move rfl) (ol_pure rfl (op_len sl_22 rfl rfl) (ol_pure rfl (op_lss rfl rfl) (ol_pure rfl (op_move rfl) ?_)))))))
 refine ol_split (fun h23 => ?_) (fun h23 => ?_)
 ·
  try simp only [dqT, dqF, dq1, dq2, dq3, dq4, dq5] at h23
  refine ol_guard_pure rfl rfl rfl (op_move rfl) (ol_guard_pure rfl rfl rfl (op_lss rfl rfl) (ol_pure rfl (op_pick_t rfl rfl) (ol_nil (pq_then ?_))))
  refine cw_cond rfl (fun h26 => ?_) (fun h26 => ?_)
  ·
   try simp only [dqT, dqF, dq1, dq2, dq3, dq4, dq5] at h26
   have hlt : k < l.length := by omega
   obtain ⟨hoa, _, _, ⟨vT, rfl, hvT, hkd, hAb, hBb⟩, hcells⟩ := h1.el hlt
   obtain ⟨oT, cT, rfl, _, _⟩ := hvT.elim
   have hfew := hMd.few
   have hatl := hMd.atl
   have hmsl := hMd.msl
   have htrl := hMd.ok.trl
   refine cw_skip (pq_then (cw_seq (cw_block (cw_seq ?_))))
   refine al_start' hS (hS.take 2) (by kernel_rfl) rfl (fun w hS hT => ?_)
   refine al_take (i := 0) rfl (by kernel_rfl) (by kernel_rfl) (by kernel_rfl) rfl (fun _ _ _ h => h) (op_move rfl) rfl (al_take (i := 1) rfl (by kernel_rfl) (by kernel_rfl) (by kernel_rfl) rfl (fun _ _ _ h => h) (op_move rfl) rfl (al_take (i := 2) rfl (by kernel_rfl) (by kernel_rfl) (by kernel_rfl) rfl (fun _ _ _ h => h) (op_indexN sl_22 rfl rfl (by omega) hoa) rfl (al_load (i := 3) rfl (by kernel_rfl) (by kernel_rfl) (by kernel_rfl) rfl (fun _ _ _ h => h) (by exact op_loadN agg_66 rfl (by rfl) (fun w hw k u hk => hw.gcell (hlk.cell (hcells k u hk)))) rfl hT (al_take (i := 4) rfl (by kernel_rfl) (by kernel_rfl) (by kernel_rfl) rfl (fun _ _ _ h => h) (op_fieldAddr fld_31_1 rfl) rfl (al_load (i := 5) rfl (by kernel_rfl) (by kernel_rfl) (by kernel_rfl) rfl (fun _ _ _ h => h) (by exact op_load1 one_26 rfl (fun w hw => (hw.bcell (i := 1) rfl).trans rfl)) rfl hT (al_take (i := 6) rfl (by kernel_rfl) (by kernel_rfl) (by kernel_rfl) rfl (fun _ _ _ h => h) (op_len sl_26 rfl rfl) rfl ?_))))))
   refine al_step (i := 7) rfl (by kernel_rfl) rfl (op_alloc hS el_66 rfl) ?_
   clear hS
   rintro _ w ⟨b6, rfl, hS⟩
   have hT := hT.back hS (by first | exact Le.refl _ | assumption) (fun x hx => by try simp only [bkA, bkB, bkC, bkD, bkE] at hx; (rcases hx with rfl | rfl) <;> simp)
   refine ⟨fun _ _ => hT, ?_⟩
   refine al_step0 (i := 8) rfl (by kernel_rfl) (op_storeN (j := 0) hS sz_66 rfl rfl rfl rfl rfl (by simp [Value.oneCell'])) ?_
   clear hS
   rintro _ w hS; (try simp only [List.nil_append, List.cons_append, List.set] at hS)
   have hT := hT.back hS (by first | exact Le.refl _ | assumption) (fun x hx => by try simp only [bkA, bkB, bkC, bkD, bkE] at hx; (rcases hx with rfl | rfl) <;> simp)
   refine ⟨fun _ _ => hT, ?_⟩
   refine al_take (i := 9) rfl (by kernel_rfl) (by kernel_rfl) (by kernel_rfl) rfl (fun _ _ _ h => h) (op_assign rfl) rfl (al_done (by kernel_rfl) (pq_then (cw_seq (cw_region (ol_pure rfl (op_fieldAddr fld_66_0 rfl) (ol_load rfl (op_load1 one_3 rfl (fun w hw => (hw.bcell (i := 0) rfl).trans rfl)) hS (ol_pure rfl (op_val (v' := .int .i64 (l[k].1 % 4)) (op_and rfl rfl) (congrArg (Value.int .i64) (and3' _))) ?_)))))))
   refine ol_pure rfl (op_eql rfl rfl) (ol_pure rfl (op_move rfl) ?_)
   refine ol_split (fun h40 => ?_) (fun h40 => ?_)
   ·
    try simp only [dqT, dqF, dq1, dq2, dq3, dq4, dq5] at h40
    refine ol_guard_pure rfl rfl rfl (op_move rfl) (ol_guard_pure rfl rfl rfl (op_gtr rfl rfl) (ol_pure rfl (op_pick_t rfl rfl) (ol_nil (pq_then ?_))))
    refine cw_cond rfl (fun h43 => ?_) (fun h43 => ?_)
    ·
     try simp only [dqT, dqF, dq1, dq2, dq3, dq4, dq5] at h43
     obtain ⟨i1, he1, hi1⟩ := mod_nat (a := l[k].2.2.1) (n := ats.length) (by omega) (by omega)
     obtain ⟨i2, he2, hi2⟩ := mod_nat (a := l[k].2.2.2) (n := ats.length) (by omega) (by omega)
     have hg1 : (ats.map (Value.int .i64))[i1]? = some (.int .i64 ats[i1]) := by simp [hi1]
     have hg2 : (ats.map (Value.int .i64))[i2]? = some (.int .i64 ats[i2]) := by simp [hi2]
     have hoA := (hS.news (j := 1) rfl _ _ hg1).1
     have hUI := UI.start hMd.ok (hMd.at_ _ (List.getElem_mem hi1)) (hMd.at_ _ (List.getElem_mem hi2))
     have hMu := hMd.unif (List.getElem_mem hi1) (List.getElem_mem hi2) rfl
     have hsq := sq_le (n := cs.length) (by omega)
     refine cw_seq ?_
     refine al_start' hS (hS.take 3) (by kernel_rfl) rfl (fun w hS hT => ?_)
     refine al_take (i := 0) rfl (by kernel_rfl) (by kernel_rfl) (by kernel_rfl) rfl (fun _ _ _ h => h) (op_fieldAddr fld_31_0 rfl) rfl (al_load (i := 1) rfl (by kernel_rfl) (by kernel_rfl) (by kernel_rfl) rfl (fun _ _ _ h => h) (by exact op_loadBS (i := 2) (o := 0) (vs := [.slice oc cs.length cc, .slice ot tr.length ct, .int .i64 400]) agg_28 rfl rfl rfl rfl) rfl hT (al_take (i := 2) rfl (by kernel_rfl) (by kernel_rfl) (by kernel_rfl) rfl (fun _ _ _ h => h) (op_fieldAddr fld_31_1 rfl) rfl (al_load (i := 3) rfl (by kernel_rfl) (by kernel_rfl) (by kernel_rfl) rfl (fun _ _ _ h => h) (by exact op_load1 one_26 rfl (fun w hw => (hw.bcell (i := 2) rfl).trans rfl)) rfl hT (al_take (i := 4) rfl (by kernel_rfl) (by kernel_rfl) (by kernel_rfl) rfl (fun _ _ _ h => h) (op_fieldAddr fld_66_2 rfl) rfl (al_load (i := 5) rfl (by kernel_rfl) (by kernel_rfl) (by kernel_rfl) rfl (fun _ _ _ h => h) (by exact op_load1 one_5 rfl (fun w hw => (hw.bcell (i := 0) rfl).trans rfl)) rfl hT (al_take (i := 6) rfl (by kernel_rfl) (by kernel_rfl) (by kernel_rfl) rfl (fun _ _ _ h => h) (op_conv ⟨_, Try.underlying5⟩ Try.underlying3 rfl (by exact wrap_u8 hAb)) rfl (al_take (i := 7) rfl (by kernel_rfl) (by kernel_rfl) (by kernel_rfl) rfl (fun _ _ _ h => h) (op_move rfl) rfl ?_)))))))
     refine al_take (i := 8) rfl (by kernel_rfl) (by kernel_rfl) (by kernel_rfl) rfl (fun _ _ _ h => h) (op_val (v' := .int .i64 (i1 : Nat)) (op_rem rfl rfl (by omega) (by omega)) (by rw [he1])) rfl (al_take (i := 9) rfl (by kernel_rfl) (by kernel_rfl) (by kernel_rfl) rfl (fun _ _ _ h => h) (op_indexN sl_26 rfl rfl hi1 hoA) rfl (al_load (i := 10) rfl (by kernel_rfl) (by kernel_rfl) (by kernel_rfl) rfl (fun _ _ _ h => h) (by exact op_load1 one_3 rfl (fun w hw => hw.rcell (i := 1) rfl (by rw [Nat.mul_one]; exact hg1))) rfl hT (al_take (i := 11) rfl (by kernel_rfl) (by kernel_rfl) (by kernel_rfl) rfl (fun _ _ _ h => h) (op_fieldAddr fld_31_1 rfl) rfl (al_load (i := 12) rfl (by kernel_rfl) (by kernel_rfl) (by kernel_rfl) rfl (fun _ _ _ h => h) (by exact op_load1 one_26 rfl (fun w hw => (hw.bcell (i := 2) rfl).trans rfl)) rfl hT (al_take (i := 13) rfl (by kernel_rfl) (by kernel_rfl) (by kernel_rfl) rfl (fun _ _ _ h => h) (op_fieldAddr fld_66_3 rfl) rfl (al_load (i := 14) rfl (by kernel_rfl) (by kernel_rfl) (by kernel_rfl) rfl (fun _ _ _ h => h) (by exact op_load1 one_5 rfl (fun w hw => (hw.bcell (i := 0) rfl).trans rfl)) rfl hT (al_take (i := 15) rfl (by kernel_rfl) (by kernel_rfl) (by kernel_rfl) rfl (fun _ _ _ h => h) (op_conv ⟨_, Try.underlying5⟩ Try.underlying3 rfl (by exact wrap_u8 hBb)) rfl ?_)))))))
     refine al_take (i := 16) rfl (by kernel_rfl) (by kernel_rfl) (by kernel_rfl) rfl (fun _ _ _ h => h) (op_move rfl) rfl (al_take (i := 17) rfl (by kernel_rfl) (by kernel_rfl) (by kernel_rfl) rfl (fun _ _ _ h => h) (op_val (v' := .int .i64 (i2 : Nat)) (op_rem rfl rfl (by omega) (by omega)) (by rw [he2])) rfl (al_take (i := 18) rfl (by kernel_rfl) (by kernel_rfl) (by kernel_rfl) rfl (fun _ _ _ h => h) (op_indexN sl_26 rfl rfl hi2 hoA) rfl (al_load (i := 19) rfl (by kernel_rfl) (by kernel_rfl) (by kernel_rfl) rfl (fun _ _ _ h => h) (by exact op_load1 one_3 rfl (fun w hw => hw.rcell (i := 1) rfl (by rw [Nat.mul_one]; exact hg2))) rfl hT ?_)))
     refine al_two (i := 20) (j := 24) (by kernel_rfl) (fun a ha => ?_) (fun a ha => ?_)
     ·
      refine wpOp_of_opk (i := 20) rfl ha (op_call_rt hS cf_26 rfl (fun _ => .inr rfl) (UniR.mono) (R08_Unify_c _ _ hS.hold _ cs tr 400 ⟨_, _, _, _, rfl, hC, hTq⟩ ats[i1] ats[i2] _ hUI (by omega) (by omega) hsq)) ?_
      clear hS
      rintro v65 w ⟨G65, hl65, hR65, hS⟩
      obtain ⟨hv65, rfl, oc5, cc5, ot5, ct5, rfl, hC5, hT5⟩ := hR65
      generalize (unif (7 * (cs.length * cs.length) + 1) cs tr [(ats[i1], ats[i2])] []).isSome = is5
      generalize ((unif (7 * (cs.length * cs.length) + 1) cs tr [(ats[i1], ats[i2])] []).getD (cs, tr)).1 = cs5 at hC5 hMu
      generalize ((unif (7 * (cs.length * cs.length) + 1) cs tr [(ats[i1], ats[i2])] []).getD (cs, tr)).2 = tr5 at hT5 hMu
      have hT := hT.back hS (by first | exact Le.refl _ | assumption) (fun x hx => by try simp only [bkA, bkB, bkC, bkD, bkE] at hx; (rcases hx with rfl | rfl | rfl) <;> simp)
      refine ⟨fun _ _ => hT, ?_⟩
      refine al_at ?_ (ha.put (blt_lt rfl) _)
      refine al_take (i := 21) rfl (by kernel_rfl) (by kernel_rfl) (by kernel_rfl) rfl (fun _ _ _ h => h) (op_move rfl) rfl (al_take (i := 22) rfl (by kernel_rfl) (by kernel_rfl) (by kernel_rfl) rfl (fun _ _ _ h => h) (op_extract (vs := [.agg #[.slice oc5 cs5.length cc5, .slice ot5 tr5.length ct5, .int .i64 400], .bool is5]) rfl rfl) rfl (al_take (i := 23) rfl (by kernel_rfl) (by kernel_rfl) (by kernel_rfl) rfl (fun _ _ _ h => h) (op_extract (vs := [.agg #[.slice oc5 cs5.length cc5, .slice ot5 tr5.length ct5, .int .i64 400], .bool is5]) rfl rfl) rfl ?_))
      refine al_step (i := 24) rfl (by kernel_rfl) rfl (op_alloc hS el_28 rfl) ?_
      clear hS
      rintro _ w ⟨b8, rfl, hS⟩
      have hT := hT.back hS (by first | exact Le.refl _ | assumption) (fun x hx => by try simp only [bkA, bkB, bkC, bkD, bkE] at hx; (rcases hx with rfl | rfl | rfl) <;> simp)
      refine ⟨fun _ _ => hT, ?_⟩
      refine al_step0 (i := 25) rfl (by kernel_rfl) (op_storeN (j := 0) hS sz_28 rfl rfl rfl rfl rfl (by simp [Value.oneCell'])) ?_
      clear hS
      rintro _ w hS; (try simp only [List.nil_append, List.cons_append, List.set] at hS)
      refine ⟨no_need (by kernel_rfl), ?_⟩
      refine al_take (i := 26) rfl (by kernel_rfl) (by kernel_rfl) (by kernel_rfl) rfl (fun _ _ _ h => h) (op_assign rfl) rfl (al_done (by kernel_rfl) (pq_then (cw_region (ol_load rfl (op_loadN agg_28 rfl (by rfl) (fun w hw k u hk => (hw.bcell (i := 0) rfl).trans hk)) hS (ol_pure rfl (op_fieldAddr fld_31_0 rfl) ?_)))))
      refine ol_step0  (op_storeBN (o := 0) (j := 3) hS sz_28 rfl rfl rfl rfl (by first | decide | simp) (by simp [Value.oneCell'])) ?_
      clear hS
      rintro _ w hS; (try simp only [List.nil_append, List.cons_append, List.set, List.take_succ_cons, List.take_zero, List.drop_succ_cons, List.drop_zero, List.drop_nil, List.append_nil] at hS)
      refine ol_nil (pq_in_normal (pq_then (cw_region (ol_pure rfl (op_move rfl) (ol_pure rfl (op_add rfl rfl (by omega) (by omega)) (ol_pure rfl (op_assign rfl) (ol_nil ?_)))))))
      refine pq_loop _ _ (by exact ⟨k + 1, G65, cs5, tr5, ats, vars, ms, us, oc5, ot5, oA, oM, oV, cc5, ct5, cA, cM, cV, rfl, by omega, by omega, rfl, hlk.trans hl65, hMu, hC5, hT5, hV.mono EInt.mono hl65, hus.mono EMk.mono hl65, SS.drop [] (SS.drop [] hS)⟩) ((Sub.cons rfl (Sub.cons rfl (Sub.cons rfl (Sub.cons rfl (Sub.cons rfl Sub.nil)))))) (by omega)
     ·
      refine wpOp_of_opk (i := 24) rfl ha (op_alloc hS el_28 rfl) ?_
      clear hS
      rintro _ w ⟨b8, rfl, hS⟩
      have hT := hT.back hS (by first | exact Le.refl _ | assumption) (fun x hx => by try simp only [bkA, bkB, bkC, bkD, bkE] at hx; (rcases hx with rfl | rfl | rfl) <;> simp)
      refine ⟨fun _ _ => hT, ?_⟩
      refine al_at ?_ (ha.put (blt_lt rfl) _)
      refine al_step (i := 20) rfl (by kernel_rfl) rfl (op_call_rt hS cf_26 rfl (fun _ => .inr rfl) (UniR.mono) (R08_Unify_c _ _ hS.hold _ cs tr 400 ⟨_, _, _, _, rfl, hC, hTq⟩ ats[i1] ats[i2] _ hUI (by omega) (by omega) hsq)) ?_
      clear hS
      rintro v65 w ⟨G65, hl65, hR65, hS⟩
      obtain ⟨hv65, rfl, oc5, cc5, ot5, ct5, rfl, hC5, hT5⟩ := hR65
      generalize (unif (7 * (cs.length * cs.length) + 1) cs tr [(ats[i1], ats[i2])] []).isSome = is5
      generalize ((unif (7 * (cs.length * cs.length) + 1) cs tr [(ats[i1], ats[i2])] []).getD (cs, tr)).1 = cs5 at hC5 hMu
      generalize ((unif (7 * (cs.length * cs.length) + 1) cs tr [(ats[i1], ats[i2])] []).getD (cs, tr)).2 = tr5 at hT5 hMu
      have hT := hT.back hS (by first | exact Le.refl _ | assumption) (fun x hx => by try simp only [bkA, bkB, bkC, bkD, bkE] at hx; (rcases hx with rfl | rfl | rfl) <;> simp)
      refine ⟨fun _ _ => hT, ?_⟩
      refine al_take (i := 21) rfl (by kernel_rfl) (by kernel_rfl) (by kernel_rfl) rfl (fun _ _ _ h => h) (op_move rfl) rfl (al_take (i := 22) rfl (by kernel_rfl) (by kernel_rfl) (by kernel_rfl) rfl (fun _ _ _ h => h) (op_extract (vs := [.agg #[.slice oc5 cs5.length cc5, .slice ot5 tr5.length ct5, .int .i64 400], .bool is5]) rfl rfl) rfl (al_take (i := 23) rfl (by kernel_rfl) (by kernel_rfl) (by kernel_rfl) rfl (fun _ _ _ h => h) (op_extract (vs := [.agg #[.slice oc5 cs5.length cc5, .slice ot5 tr5.length ct5, .int .i64 400], .bool is5]) rfl rfl) rfl ?_))
      refine al_step0 (i := 25) rfl (by kernel_rfl) (op_storeN (j := 0) hS sz_28 rfl rfl rfl rfl rfl (by simp [Value.oneCell'])) ?_
      clear hS
      rintro _ w hS; (try simp only [List.nil_append, List.cons_append, List.set] at hS)
      refine ⟨no_need (by kernel_rfl), ?_⟩
      refine al_take (i := 26) rfl (by kernel_rfl) (by kernel_rfl) (by kernel_rfl) rfl (fun _ _ _ h => h) (op_assign rfl) rfl (al_done (by kernel_rfl) (pq_then (cw_region (ol_load rfl (op_loadN agg_28 rfl (by rfl) (fun w hw k u hk => (hw.bcell (i := 0) rfl).trans hk)) hS (ol_pure rfl (op_fieldAddr fld_31_0 rfl) ?_)))))
      refine ol_step0  (op_storeBN (o := 0) (j := 3) hS sz_28 rfl rfl rfl rfl (by first | decide | simp) (by simp [Value.oneCell'])) ?_
      clear hS
      rintro _ w hS; (try simp only [List.nil_append, List.cons_append, List.set, List.take_succ_cons, List.take_zero, List.drop_succ_cons, List.drop_zero, List.drop_nil, List.append_nil] at hS)
      refine ol_nil (pq_in_normal (pq_then (cw_region (ol_pure rfl (op_move rfl) (ol_pure rfl (op_add rfl rfl (by omega) (by omega)) (ol_pure rfl (op_assign rfl) (ol_nil ?_)))))))
      refine pq_loop _ _ (by exact ⟨k + 1, G65, cs5, tr5, ats, vars, ms, us, oc5, ot5, oA, oM, oV, cc5, ct5, cA, cM, cV, rfl, by omega, by omega, rfl, hlk.trans hl65, hMu, hC5, hT5, hV.mono EInt.mono hl65, hus.mono EMk.mono hl65, SS.drop [] (SS.drop [] hS)⟩) ((Sub.cons rfl (Sub.cons rfl (Sub.cons rfl (Sub.cons rfl (Sub.cons rfl Sub.nil)))))) (by omega)
    ·
     try simp only [dqT, dqF, dq1, dq2, dq3, dq4, dq5] at h43
     refine cw_seq (cw_region (ol_pure rfl (op_fieldAddr fld_66_0 rfl) (ol_load rfl (op_load1 one_3 rfl (fun w hw => (hw.bcell (i := 0) rfl).trans rfl)) hS (ol_pure rfl (op_val (v' := .int .i64 (l[k].1 % 4)) (op_and rfl rfl) (congrArg (Value.int .i64) (and3' _))) (ol_pure rfl (op_eql rfl rfl) (ol_nil (pq_then ?_)))))))
     refine cw_cond rfl (fun h73 => ?_) (fun h73 => ?_)
     ·
      try simp only [dqT, dqF, dq1, dq2, dq3, dq4, dq5] at h73
      refine cw_seq (cw_region ?_)
      refine ol_step rfl (op_buildSlice (el := 3) (is := []) (xs := []) (sz := 1) (cs := []) hS rfl rfl (fun w => by kernel_rfl) rfl (by decide)) ?_
      clear hS
      rintro _ w ⟨rts, rfl, hS⟩
      refine ol_pure rfl (op_assign rfl) (ol_nil (pq_then (cw_seq (cw_seq (cw_region (ol_pure rfl (op_fieldAddr fld_66_2 rfl) (ol_load rfl (op_load1 one_5 rfl (fun w hw => (hw.bcell (i := 1) rfl).trans rfl)) hS ?_)))))))
      refine ol_pure rfl (op_conv ⟨_, Try.underlying5⟩ Try.underlying3 rfl (by exact wrap_u8 hAb)) (ol_pure rfl (op_val (v' := .int .i64 (l[k].2.2.1 % 2)) (op_and rfl rfl) (congrArg (Value.int .i64) (and1' _))) (ol_pure rfl (op_assign rfl) (ol_nil (pq_then (cw_block ?_)))))
      refine cw_loop (fun e w n => ∃ (j : Nat) (rl : List Int) (oR : Option Addr) (lR cR : Nat), e = [(0, .slice oa l.length ca), (2, .pointer (some ⟨b2, 0, none⟩)), (3, .pointer (some ⟨b3, 0, none⟩)), (4, .slice oV vars.length cV), (5, .int .i64 (k : Nat)), (7, .int .i64 (ats.length : Nat)), (10, .slice oR lR cR), (11, .int .i64 (j : Nat))] ∧ lR = rl.length ∧ (∀ x ∈ rl, x ∈ ats) ∧ rl.length * 2 ≤ j ∧ j ≤ ats.length + 1 ∧ n = ats.length + 2 - j ∧ SS G w0 Gk [.row oR lR cR 3 1 (rl.map (Value.int .i64)), .blk b6 66 [.int .i64 l[k].1, .slice oT l[k].2.1.length cT, .int .u8 l[k].2.2.1, .int .u8 l[k].2.2.2], .row oA ats.length cA 3 1 (ats.map (Value.int .i64)), .blk b3 31 [.slice oc cs.length cc, .slice ot tr.length ct, .int .i64 400, .slice oA ats.length cA, .slice oM ms.length cM], .row oM ms.length cM 46 3 us, .blk b2 31 [.slice none 0 0, .slice none 0 0, .int .i64 0, .slice none 0 0, .slice none 0 0]] w) _ _ (by exact ⟨(l[k].2.2.1 % 2).toNat, [], rts, 0, 0, by rw [Int.toNat_of_nonneg (by omega)], rfl, by simp, by simp, by omega, rfl, hS⟩) ((Sub.cons rfl (Sub.cons rfl (Sub.cons rfl (Sub.cons rfl (Sub.cons rfl (Sub.cons rfl (Sub.cons rfl (Sub.cons rfl Sub.nil))))))))) ?_
      clear hS
      rintro e w n ⟨j, rl, oR, lR, cR, rfl, rfl, hrl, hrj, hj, rfl, hS⟩
      refine cw_seq (cw_seq (cw_region (ol_pure rfl (op_move rfl) (ol_pure rfl (op_move rfl) (ol_pure rfl (op_lss rfl rfl) (ol_nil (pq_then ?_)))))))
      refine cw_cond rfl (fun h81 => ?_) (fun h81 => ?_)
      ·
       try simp only [dqT, dqF, dq1, dq2, dq3, dq4, dq5] at h81
       have hjl : j < ats.length := by omega
       have hgj : (ats.map (Value.int .i64))[j]? = some (.int .i64 ats[j]) := by simp [hjl]
       have hoA := (hS.news (j := 2) rfl _ _ hgj).1
       refine cw_skip (pq_then (cw_seq (cw_block (cw_region (ol_pure rfl (op_move rfl) (ol_pure rfl (op_fieldAddr fld_31_1 rfl) (ol_load rfl (op_load1 one_26 rfl (fun w hw => (hw.bcell (i := 3) rfl).trans rfl)) hS ?_)))))))
       refine ol_pure rfl (op_move rfl) (ol_pure rfl (op_indexN sl_26 rfl rfl hjl hoA) (ol_load rfl (op_load1 one_3 rfl (fun w hw => hw.rcell (i := 2) rfl (by rw [Nat.mul_one]; exact hgj))) hS ?_))
       refine ol_step rfl (op_buildSlice (el := 3) (is := [0]) (xs := [.tmp 89]) (sz := 1) (cs := [.int .i64 ats[j]]) hS rfl rfl (fun w => by kernel_rfl) rfl (by decide)) ?_
       clear hS
       rintro _ w ⟨s90, rfl, hS⟩
       refine ol_step rfl (op_append (j := 1) hS sl_26 el_3 rfl rfl rfl rfl rfl rfl (by decide) (hS.news (j := 0) rfl) (by simp [Value.oneCell']) (by omega) (by unfold maxLen; omega)) ?_
       clear hS
       rintro _ w ⟨oq, c_oq, rfl, hS⟩; (try simp only [List.nil_append, List.cons_append, List.set] at hS); replace hS := SS.drop [] hS; (try simp only [List.nil_append, List.cons_append] at hS)
       refine ol_pure rfl (op_assign rfl) (ol_nil (pq_in_normal (pq_then (cw_region (ol_pure rfl (op_move rfl) (ol_pure rfl (op_add rfl rfl (by omega) (by omega)) (ol_pure rfl (op_assign rfl) ?_)))))))
       refine ol_nil ?_
       refine pq_loop _ _ (by exact ⟨j + 2, rl ++ [ats[j]], oq, rl.length + 1, c_oq, rfl, by simp, fun x hx => (List.mem_append.1 hx).elim (hrl x) (fun h => by rw [show x = ats[j] from by simpa using h]; exact List.getElem_mem hjl), by simp; omega, by omega, rfl, by simpa using hS⟩) ((Sub.cons rfl (Sub.cons rfl (Sub.cons rfl (Sub.cons rfl (Sub.cons rfl (Sub.cons rfl (Sub.cons rfl (Sub.cons rfl Sub.nil))))))))) (by omega)
      ·
       try simp only [dqT, dqF, dq1, dq2, dq3, dq4, dq5] at h81
       refine cw_exit (pq_exit (pq_exit (pq_in_exit (pq_then ?_))))
       obtain ⟨Gr, hlr, hSr, hRr⟩ := SS.give' rl [] EInt.mono hS (by decide) ((Rows.ints (fun x hx => by
         have := hMd.at_ x (hrl x hx)
         omega)).mono EInt.mono (fun b o hb => by cases hb)) rfl
       clear hS
       have hS := hSr
       clear hSr
       simp only [List.nil_append] at hS
       have hMm := hMd.mark hrl (by omega)
       refine al_start' hS (hS.take 3) (by kernel_rfl) rfl (fun w hS hT => ?_)
       refine al_take (i := 0) rfl (by kernel_rfl) (by kernel_rfl) (by kernel_rfl) rfl (fun _ _ _ h => h) (op_fieldAddr fld_31_2 rfl) rfl (al_load (i := 1) rfl (by kernel_rfl) (by kernel_rfl) (by kernel_rfl) rfl (fun _ _ _ h => h) (by exact op_load1 one_29 rfl (fun w hw => (hw.bcell (i := 2) rfl).trans rfl)) rfl hT (al_take (i := 2) rfl (by kernel_rfl) (by kernel_rfl) (by kernel_rfl) rfl (fun _ _ _ h => h) (op_fieldAddr fld_31_0 rfl) rfl (al_load (i := 3) rfl (by kernel_rfl) (by kernel_rfl) (by kernel_rfl) rfl (fun _ _ _ h => h) (by exact op_loadBS (i := 2) (o := 0) (vs := [.slice oc cs.length cc, .slice ot tr.length ct, .int .i64 400]) agg_28 rfl rfl rfl rfl) rfl hT (al_take (i := 4) rfl (by kernel_rfl) (by kernel_rfl) (by kernel_rfl) rfl (fun _ _ _ h => h) (op_move rfl) rfl ?_))))
       refine al_step (i := 5) rfl (by kernel_rfl) rfl (op_call_sc hS cf_30 rfl (R08_Mark_c _ _ hS.hold _ cs tr 400 ⟨_, _, _, _, rfl, hC.mono ECell.mono hlr, hTq.mono EInt.mono hlr⟩ oR rl.length cR)) ?_
       clear hS
       rintro _ w ⟨rfl, hS⟩
       have hT := hT.back hS (by first | exact Le.refl _ | assumption) (fun x hx => by try simp only [bkA, bkB, bkC, bkD, bkE] at hx; (rcases hx with rfl | rfl | rfl) <;> simp)
       refine ⟨fun _ _ => hT, ?_⟩
       refine al_step (i := 6) rfl (by kernel_rfl) rfl (op_buildSlice (el := 46) (is := [0]) (xs := [.tmp 97]) (sz := 3) (cs := [.int .i64 (cs.length : Nat), .int .i64 (tr.length : Nat), .slice oR rl.length cR]) hS rfl rfl (fun w => by kernel_rfl) rfl (by decide)) ?_
       clear hS
       rintro _ w ⟨s98, rfl, hS⟩
       have hT := hT.back hS (by first | exact Le.refl _ | assumption) (fun x hx => by try simp only [bkA, bkB, bkC, bkD, bkE] at hx; (rcases hx with rfl | rfl | rfl) <;> simp)
       refine ⟨fun _ _ => hT, ?_⟩
       refine al_step (i := 7) rfl (by kernel_rfl) rfl (op_append (j := 4) hS sl_29 el_46 rfl rfl rfl rfl rfl rfl (by decide) (hS.news (j := 0) rfl) (by intro u hu; simp only [List.mem_cons, List.not_mem_nil, or_false] at hu; rcases hu with rfl | rfl | rfl <;> rfl) (by omega) (by unfold maxLen; omega)) ?_
       clear hS
       rintro _ w ⟨om2, c_om2, rfl, hS⟩; (try simp only [List.nil_append, List.cons_append, List.set] at hS); replace hS := SS.drop [] hS; (try simp only [List.nil_append, List.cons_append] at hS)
       have hT := hT.back hS (by first | exact Le.refl _ | assumption) (fun x hx => by try simp only [bkA, bkB, bkC, bkD, bkE] at hx; (rcases hx with rfl | rfl | rfl) <;> simp)
       refine ⟨fun _ _ => hT, ?_⟩
       refine al_take (i := 8) rfl (by kernel_rfl) (by kernel_rfl) (by kernel_rfl) rfl (fun _ _ _ h => h) (op_fieldAddr fld_31_2 rfl) rfl ?_
       refine al_step0 (i := 9) rfl (by kernel_rfl) (op_storeB (j := 2) (k := 4) hS sz_29 rfl rfl rfl rfl (by simp)) ?_
       clear hS
       rintro _ w hS; (try simp only [List.nil_append, List.cons_append, List.set] at hS)
       refine ⟨no_need (by kernel_rfl), ?_⟩
       refine al_done (by kernel_rfl) (pq_in_normal (pq_then (cw_region (ol_pure rfl (op_move rfl) (ol_pure rfl (op_add rfl rfl (by omega) (by omega)) (ol_pure rfl (op_assign rfl) (ol_nil ?_)))))))
       refine pq_loop _ _ (by exact ⟨k + 1, Gr, cs, tr, ats, vars, _, _, oc, ot, oA, om2, oV, cc, ct, cA, c_om2, cV, rfl, by omega, by omega, rfl, hlk.trans hlr, hMm, hC.mono ECell.mono hlr, hTq.mono EInt.mono hlr, hV.mono EInt.mono hlr, (hus.mono EMk.mono hlr).snoc (x := ⟨(cs.length : Nat), (tr.length : Nat), rl⟩) rfl ⟨_, rfl, hRr, by simp only; omega, by simp only; omega⟩, by simpa using SS.drop [] hS⟩) ((Sub.cons rfl (Sub.cons rfl (Sub.cons rfl (Sub.cons rfl (Sub.cons rfl Sub.nil)))))) (by omega)
     ·
      try simp only [dqT, dqF, dq1, dq2, dq3, dq4, dq5] at h73
      refine cw_seq ?_
      refine al_start' hS (hS.take 3) (by kernel_rfl) rfl (fun w hS hT => ?_)
      refine al_take (i := 0) rfl (by kernel_rfl) (by kernel_rfl) (by kernel_rfl) rfl (fun _ _ _ h => h) (op_fieldAddr fld_31_0 rfl) rfl (al_load (i := 1) rfl (by kernel_rfl) (by kernel_rfl) (by kernel_rfl) rfl (fun _ _ _ h => h) (by exact op_loadBS (i := 2) (o := 0) (vs := [.slice oc cs.length cc, .slice ot tr.length ct, .int .i64 400]) agg_28 rfl rfl rfl rfl) rfl hT (al_take (i := 2) rfl (by kernel_rfl) (by kernel_rfl) (by kernel_rfl) rfl (fun _ _ _ h => h) (op_fieldAddr fld_66_1 rfl) rfl (al_load (i := 3) rfl (by kernel_rfl) (by kernel_rfl) (by kernel_rfl) rfl (fun _ _ _ h => h) (by exact op_load1 one_59 rfl (fun w hw => (hw.bcell (i := 0) rfl).trans rfl)) rfl hT (al_take (i := 6) rfl (by kernel_rfl) (by kernel_rfl) (by kernel_rfl) rfl (fun _ _ _ h => h) (op_move rfl) rfl ?_))))
      refine al_meet (fuel2 := 0) (ds2 := [17, 16, 15, 14, 13, 12, 11, 10, 9, 8, 7, 6, 5, 4, 3, 2, 1, 0]) (fun e w => ∃ (r : Int × Stt) (b12 : Nat) (Gp : GH) (oc5 ot5 ov5 : Option Addr) (cc5 ct5 cv5 : Nat), e = [(0, .slice oa l.length ca), (2, .pointer (some ⟨b2, 0, none⟩)), (3, .pointer (some ⟨b3, 0, none⟩)), (4, .slice oV vars.length cV), (5, .int .i64 (k : Nat)), (12, .pointer (some ⟨b12, 0, none⟩)), (13, .int .i64 r.1), (14, .slice ov5 r.2.2.length cv5)] ∧ Le Gk Gp ∧ MadeI (k + 1) r.2.1 tr (ats ++ [r.1]) r.2.2 ms ∧ RSl 3 ECell Gp (.slice oc5 r.2.1.length cc5) r.2.1 ∧ RSl 1 EInt Gp (.slice ot5 tr.length ct5) tr ∧ RSl 1 EInt Gp (.slice ov5 r.2.2.length cv5) r.2.2 ∧ SS G w0 Gp [.blk b12 28 [.slice oc5 r.2.1.length cc5, .slice ot5 tr.length ct5, .int .i64 400], .blk b6 66 [.int .i64 l[k].1, .slice oT l[k].2.1.length cT, .int .u8 l[k].2.2.1, .int .u8 l[k].2.2.2], .row oA ats.length cA 3 1 (ats.map (Value.int .i64)), .blk b3 31 [.slice oc cs.length cc, .slice ot tr.length ct, .int .i64 400, .slice oA ats.length cA, .slice oM ms.length cM], .row oM ms.length cM 46 3 us, .blk b2 31 [.slice none 0 0, .slice none 0 0, .int .i64 0, .slice none 0 0, .slice none 0 0]] w) (fun K16 => ?_) ?_
      ·
       refine al_two (i := 4) (j := 13) (by kernel_rfl) (fun a ha => ?_) (fun a ha => ?_)
       ·
        refine wpOp_of_opk (i := 4) rfl ha (op_call_rt hS cf_32 rfl (fun _ => .inr rfl) (fun _ _ _ hl ⟨t, h1, h2⟩ => ⟨t, h1.mono ECell.mono hl, h2⟩) (R03_Made_c _ _ hS.hold _ l[k].2.1 (hvT.mono ECell.mono hlk))) ?_
        clear hS
        rintro v106 w ⟨Gq, hl106, hR106, hS⟩
        obtain ⟨t, hRt, htT, htl⟩ := hR106
        obtain ⟨oq, cq, rfl, _, _⟩ := hRt.elim
        have hlT := low_isT htT
        have hll : (lowI t).length = t.length := by simp [lowI]
        have hPO := putI_ok (at_ := vars) hMd.ok.slots hMd.ok.rank hMd.vars_ hMd.varl hlT
        have hMp := hMd.put hPO (by omega)
        have hT := hT.back hS (by first | exact Le.refl _ | assumption) (fun x hx => by try simp only [bkA, bkB, bkC, bkD, bkE] at hx; (rcases hx with rfl | rfl | rfl) <;> simp)
        refine ⟨fun _ _ => hT, ?_⟩
        refine al_at ?_ (ha.put (blt_lt rfl) _)
        refine al_two (i := 5) (j := 13) (by kernel_rfl) (fun a ha => ?_) (fun a ha => ?_)
        ·
         refine wpOp_of_opk (i := 5) rfl ha (op_call_fr hS cf_31 rfl (R09_Low_c _ _ hS.hold _ t hRt (by omega))) ?_
         clear hS
         rintro v107 w ⟨F107, Gw, hR107, hF107, hf107, hl107, hS⟩
         obtain ⟨ow, cw, rfl, _, _⟩ := hR107.elim
         have hlw := hl106.trans hl107
         have hT := hT.back hS (by first | exact Le.refl _ | assumption) (fun x hx => by try simp only [bkA, bkB, bkC, bkD, bkE] at hx; (rcases hx with rfl | rfl | rfl) <;> simp)
         refine ⟨fun _ _ => hT, ?_⟩
         refine al_at ?_ (ha.put (blt_lt rfl) _)
         refine al_two (i := 7) (j := 13) (by kernel_rfl) (fun a ha => ?_) (fun a ha => ?_)
         ·
          refine wpOp_of_opk (i := 7) rfl ha (op_call_rt hS cf_28 rfl (fun _ => .inr rfl) (PutR.mono) (R08_Put_c _ _ hS.hold _ cs tr 400 ⟨_, _, _, _, rfl, hC.mono ECell.mono hlw, hTq.mono EInt.mono hlw⟩ _ (lowI t) (hR107.mono ECell.mono hf107) _ vars (hV.mono EInt.mono hlw) hMd.ok.slots hMd.ok.rank hMd.vars_ hMd.varl hlT (by omega) (by omega) (by omega) (by omega))) ?_
          clear hS
          rintro v109 w ⟨Gp, hl109, hR109, hS⟩
          obtain ⟨hv5, va5, rfl, ⟨oc5, cc5, ot5, ct5, rfl, hC5, hT5⟩, hV5⟩ := hR109
          obtain ⟨ov5, cv5, rfl, _, _⟩ := hV5.elim
          generalize (putI (lowI t) (cs, vars)) = r at hC5 hV5 hMp
          have hlp := hlw.trans hl109
          have hT := hT.back hS (by first | exact Le.refl _ | assumption) (fun x hx => by try simp only [bkA, bkB, bkC, bkD, bkE] at hx; (rcases hx with rfl | rfl | rfl) <;> simp)
          refine ⟨fun _ _ => hT, ?_⟩
          refine al_at ?_ (ha.put (blt_lt rfl) _)
          refine al_take (i := 8) rfl (by kernel_rfl) (by kernel_rfl) (by kernel_rfl) rfl (fun _ _ _ h => h) (op_move rfl) rfl (al_take (i := 9) rfl (by kernel_rfl) (by kernel_rfl) (by kernel_rfl) rfl (fun _ _ _ h => h) (op_extract (vs := [.agg #[.slice oc5 r.2.1.length cc5, .slice ot5 tr.length ct5, .int .i64 400], .int .i64 r.1, .slice ov5 r.2.2.length cv5, .int .i64 0]) rfl rfl) rfl (al_take (i := 10) rfl (by kernel_rfl) (by kernel_rfl) (by kernel_rfl) rfl (fun _ _ _ h => h) (op_extract (vs := [.agg #[.slice oc5 r.2.1.length cc5, .slice ot5 tr.length ct5, .int .i64 400], .int .i64 r.1, .slice ov5 r.2.2.length cv5, .int .i64 0]) rfl rfl) rfl (al_take (i := 11) rfl (by kernel_rfl) (by kernel_rfl) (by kernel_rfl) rfl (fun _ _ _ h => h) (op_extract (vs := [.agg #[.slice oc5 r.2.1.length cc5, .slice ot5 tr.length ct5, .int .i64 400], .int .i64 r.1, .slice ov5 r.2.2.length cv5, .int .i64 0]) rfl rfl) rfl (al_take (i := 12) rfl (by kernel_rfl) (by kernel_rfl) (by kernel_rfl) rfl (fun _ _ _ h => h) (op_extract (vs := [.agg #[.slice oc5 r.2.1.length cc5, .slice ot5 tr.length ct5, .int .i64 400], .int .i64 r.1, .slice ov5 r.2.2.length cv5, .int .i64 0]) rfl rfl) rfl ?_))))
          refine al_step (i := 13) rfl (by kernel_rfl) rfl (op_alloc hS el_28 rfl) ?_
          clear hS
          rintro _ w ⟨b12, rfl, hS⟩
          have hT := hT.back hS (by first | exact Le.refl _ | assumption) (fun x hx => by try simp only [bkA, bkB, bkC, bkD, bkE] at hx; (rcases hx with rfl | rfl | rfl) <;> simp)
          refine ⟨fun _ _ => hT, ?_⟩
          refine al_step0 (i := 14) rfl (by kernel_rfl) (op_storeN (j := 0) hS sz_28 rfl rfl rfl rfl rfl (by simp [Value.oneCell'])) ?_
          clear hS
          rintro _ w hS; (try simp only [List.nil_append, List.cons_append, List.set] at hS)
          refine ⟨no_need (by kernel_rfl), ?_⟩
          refine al_take (i := 15) rfl (by kernel_rfl) (by kernel_rfl) (by kernel_rfl) rfl (fun _ _ _ h => h) (op_assign rfl) rfl (al_take (i := 16) rfl (by kernel_rfl) (by kernel_rfl) (by kernel_rfl) rfl (fun _ _ _ h => h) (op_assign rfl) rfl (al_take (i := 17) rfl (by kernel_rfl) (by kernel_rfl) (by kernel_rfl) rfl (fun _ _ _ h => h) (op_assign rfl) rfl ?_))
          exact K16 _ _ _ _ (by kernel_rfl) (by exact ⟨r, b12, Gp, oc5, ot5, ov5, cc5, ct5, cv5, rfl, hlp, hMp, hC5, hT5, hV5, hS⟩) ((Sub.cons rfl (Sub.cons rfl (Sub.cons rfl (Sub.cons rfl (Sub.cons rfl (Sub.cons rfl (Sub.cons rfl (Sub.cons rfl Sub.nil)))))))))
         ·
          refine wpOp_of_opk (i := 13) rfl ha (op_alloc hS el_28 rfl) ?_
          clear hS
          rintro _ w ⟨b12, rfl, hS⟩
          have hT := hT.back hS (by first | exact Le.refl _ | assumption) (fun x hx => by try simp only [bkA, bkB, bkC, bkD, bkE] at hx; (rcases hx with rfl | rfl | rfl) <;> simp)
          refine ⟨fun _ _ => hT, ?_⟩
          refine al_at ?_ (ha.put (blt_lt rfl) _)
          refine al_step (i := 7) rfl (by kernel_rfl) rfl (op_call_rt hS cf_28 rfl (fun _ => .inr rfl) (PutR.mono) (R08_Put_c _ _ hS.hold _ cs tr 400 ⟨_, _, _, _, rfl, hC.mono ECell.mono hlw, hTq.mono EInt.mono hlw⟩ _ (lowI t) (hR107.mono ECell.mono hf107) _ vars (hV.mono EInt.mono hlw) hMd.ok.slots hMd.ok.rank hMd.vars_ hMd.varl hlT (by omega) (by omega) (by omega) (by omega))) ?_
          clear hS
          rintro v109 w ⟨Gp, hl109, hR109, hS⟩
          obtain ⟨hv5, va5, rfl, ⟨oc5, cc5, ot5, ct5, rfl, hC5, hT5⟩, hV5⟩ := hR109
          obtain ⟨ov5, cv5, rfl, _, _⟩ := hV5.elim
          generalize (putI (lowI t) (cs, vars)) = r at hC5 hV5 hMp
          have hlp := hlw.trans hl109
          have hT := hT.back hS (by first | exact Le.refl _ | assumption) (fun x hx => by try simp only [bkA, bkB, bkC, bkD, bkE] at hx; (rcases hx with rfl | rfl | rfl) <;> simp)
          refine ⟨fun _ _ => hT, ?_⟩
          refine al_take (i := 8) rfl (by kernel_rfl) (by kernel_rfl) (by kernel_rfl) rfl (fun _ _ _ h => h) (op_move rfl) rfl (al_take (i := 9) rfl (by kernel_rfl) (by kernel_rfl) (by kernel_rfl) rfl (fun _ _ _ h => h) (op_extract (vs := [.agg #[.slice oc5 r.2.1.length cc5, .slice ot5 tr.length ct5, .int .i64 400], .int .i64 r.1, .slice ov5 r.2.2.length cv5, .int .i64 0]) rfl rfl) rfl (al_take (i := 10) rfl (by kernel_rfl) (by kernel_rfl) (by kernel_rfl) rfl (fun _ _ _ h => h) (op_extract (vs := [.agg #[.slice oc5 r.2.1.length cc5, .slice ot5 tr.length ct5, .int .i64 400], .int .i64 r.1, .slice ov5 r.2.2.length cv5, .int .i64 0]) rfl rfl) rfl (al_take (i := 11) rfl (by kernel_rfl) (by kernel_rfl) (by kernel_rfl) rfl (fun _ _ _ h => h) (op_extract (vs := [.agg #[.slice oc5 r.2.1.length cc5, .slice ot5 tr.length ct5, .int .i64 400], .int .i64 r.1, .slice ov5 r.2.2.length cv5, .int .i64 0]) rfl rfl) rfl (al_take (i := 12) rfl (by kernel_rfl) (by kernel_rfl) (by kernel_rfl) rfl (fun _ _ _ h => h) (op_extract (vs := [.agg #[.slice oc5 r.2.1.length cc5, .slice ot5 tr.length ct5, .int .i64 400], .int .i64 r.1, .slice ov5 r.2.2.length cv5, .int .i64 0]) rfl rfl) rfl ?_))))
          refine al_step0 (i := 14) rfl (by kernel_rfl) (op_storeN (j := 0) hS sz_28 rfl rfl rfl rfl rfl (by simp [Value.oneCell'])) ?_
          clear hS
          rintro _ w hS; (try simp only [List.nil_append, List.cons_append, List.set] at hS)
          refine ⟨no_need (by kernel_rfl), ?_⟩
          refine al_take (i := 15) rfl (by kernel_rfl) (by kernel_rfl) (by kernel_rfl) rfl (fun _ _ _ h => h) (op_assign rfl) rfl (al_take (i := 16) rfl (by kernel_rfl) (by kernel_rfl) (by kernel_rfl) rfl (fun _ _ _ h => h) (op_assign rfl) rfl (al_take (i := 17) rfl (by kernel_rfl) (by kernel_rfl) (by kernel_rfl) rfl (fun _ _ _ h => h) (op_assign rfl) rfl ?_))
          exact K16 _ _ _ _ (by kernel_rfl) (by exact ⟨r, b12, Gp, oc5, ot5, ov5, cc5, ct5, cv5, rfl, hlp, hMp, hC5, hT5, hV5, hS⟩) ((Sub.cons rfl (Sub.cons rfl (Sub.cons rfl (Sub.cons rfl (Sub.cons rfl (Sub.cons rfl (Sub.cons rfl (Sub.cons rfl Sub.nil)))))))))
        ·
         refine wpOp_of_opk (i := 13) rfl ha (op_alloc hS el_28 rfl) ?_
         clear hS
         rintro _ w ⟨b12, rfl, hS⟩
         have hT := hT.back hS (by first | exact Le.refl _ | assumption) (fun x hx => by try simp only [bkA, bkB, bkC, bkD, bkE] at hx; (rcases hx with rfl | rfl | rfl) <;> simp)
         refine ⟨fun _ _ => hT, ?_⟩
         refine al_at ?_ (ha.put (blt_lt rfl) _)
         refine al_step (i := 5) rfl (by kernel_rfl) rfl (op_call_fr hS cf_31 rfl (R09_Low_c _ _ hS.hold _ t hRt (by omega))) ?_
         clear hS
         rintro v107 w ⟨F107, Gw, hR107, hF107, hf107, hl107, hS⟩
         obtain ⟨ow, cw, rfl, _, _⟩ := hR107.elim
         have hlw := hl106.trans hl107
         have hT := hT.back hS (by first | exact Le.refl _ | assumption) (fun x hx => by try simp only [bkA, bkB, bkC, bkD, bkE] at hx; (rcases hx with rfl | rfl | rfl) <;> simp)
         refine ⟨fun _ _ => hT, ?_⟩
         refine al_step (i := 7) rfl (by kernel_rfl) rfl (op_call_rt hS cf_28 rfl (fun _ => .inr rfl) (PutR.mono) (R08_Put_c _ _ hS.hold _ cs tr 400 ⟨_, _, _, _, rfl, hC.mono ECell.mono hlw, hTq.mono EInt.mono hlw⟩ _ (lowI t) (hR107.mono ECell.mono hf107) _ vars (hV.mono EInt.mono hlw) hMd.ok.slots hMd.ok.rank hMd.vars_ hMd.varl hlT (by omega) (by omega) (by omega) (by omega))) ?_
         clear hS
         rintro v109 w ⟨Gp, hl109, hR109, hS⟩
         obtain ⟨hv5, va5, rfl, ⟨oc5, cc5, ot5, ct5, rfl, hC5, hT5⟩, hV5⟩ := hR109
         obtain ⟨ov5, cv5, rfl, _, _⟩ := hV5.elim
         generalize (putI (lowI t) (cs, vars)) = r at hC5 hV5 hMp
         have hlp := hlw.trans hl109
         have hT := hT.back hS (by first | exact Le.refl _ | assumption) (fun x hx => by try simp only [bkA, bkB, bkC, bkD, bkE] at hx; (rcases hx with rfl | rfl | rfl) <;> simp)
         refine ⟨fun _ _ => hT, ?_⟩
         refine al_take (i := 8) rfl (by kernel_rfl) (by kernel_rfl) (by kernel_rfl) rfl (fun _ _ _ h => h) (op_move rfl) rfl (al_take (i := 9) rfl (by kernel_rfl) (by kernel_rfl) (by kernel_rfl) rfl (fun _ _ _ h => h) (op_extract (vs := [.agg #[.slice oc5 r.2.1.length cc5, .slice ot5 tr.length ct5, .int .i64 400], .int .i64 r.1, .slice ov5 r.2.2.length cv5, .int .i64 0]) rfl rfl) rfl (al_take (i := 10) rfl (by kernel_rfl) (by kernel_rfl) (by kernel_rfl) rfl (fun _ _ _ h => h) (op_extract (vs := [.agg #[.slice oc5 r.2.1.length cc5, .slice ot5 tr.length ct5, .int .i64 400], .int .i64 r.1, .slice ov5 r.2.2.length cv5, .int .i64 0]) rfl rfl) rfl (al_take (i := 11) rfl (by kernel_rfl) (by kernel_rfl) (by kernel_rfl) rfl (fun _ _ _ h => h) (op_extract (vs := [.agg #[.slice oc5 r.2.1.length cc5, .slice ot5 tr.length ct5, .int .i64 400], .int .i64 r.1, .slice ov5 r.2.2.length cv5, .int .i64 0]) rfl rfl) rfl (al_take (i := 12) rfl (by kernel_rfl) (by kernel_rfl) (by kernel_rfl) rfl (fun _ _ _ h => h) (op_extract (vs := [.agg #[.slice oc5 r.2.1.length cc5, .slice ot5 tr.length ct5, .int .i64 400], .int .i64 r.1, .slice ov5 r.2.2.length cv5, .int .i64 0]) rfl rfl) rfl ?_))))
         refine al_step0 (i := 14) rfl (by kernel_rfl) (op_storeN (j := 0) hS sz_28 rfl rfl rfl rfl rfl (by simp [Value.oneCell'])) ?_
         clear hS
         rintro _ w hS; (try simp only [List.nil_append, List.cons_append, List.set] at hS)
         refine ⟨no_need (by kernel_rfl), ?_⟩
         refine al_take (i := 15) rfl (by kernel_rfl) (by kernel_rfl) (by kernel_rfl) rfl (fun _ _ _ h => h) (op_assign rfl) rfl (al_take (i := 16) rfl (by kernel_rfl) (by kernel_rfl) (by kernel_rfl) rfl (fun _ _ _ h => h) (op_assign rfl) rfl (al_take (i := 17) rfl (by kernel_rfl) (by kernel_rfl) (by kernel_rfl) rfl (fun _ _ _ h => h) (op_assign rfl) rfl ?_))
         exact K16 _ _ _ _ (by kernel_rfl) (by exact ⟨r, b12, Gp, oc5, ot5, ov5, cc5, ct5, cv5, rfl, hlp, hMp, hC5, hT5, hV5, hS⟩) ((Sub.cons rfl (Sub.cons rfl (Sub.cons rfl (Sub.cons rfl (Sub.cons rfl (Sub.cons rfl (Sub.cons rfl (Sub.cons rfl Sub.nil)))))))))
       ·
        refine wpOp_of_opk (i := 13) rfl ha (op_alloc hS el_28 rfl) ?_
        clear hS
        rintro _ w ⟨b12, rfl, hS⟩
        have hT := hT.back hS (by first | exact Le.refl _ | assumption) (fun x hx => by try simp only [bkA, bkB, bkC, bkD, bkE] at hx; (rcases hx with rfl | rfl | rfl) <;> simp)
        refine ⟨fun _ _ => hT, ?_⟩
        refine al_at ?_ (ha.put (blt_lt rfl) _)
        refine al_step (i := 4) rfl (by kernel_rfl) rfl (op_call_rt hS cf_32 rfl (fun _ => .inr rfl) (fun _ _ _ hl ⟨t, h1, h2⟩ => ⟨t, h1.mono ECell.mono hl, h2⟩) (R03_Made_c _ _ hS.hold _ l[k].2.1 (hvT.mono ECell.mono hlk))) ?_
        clear hS
        rintro v106 w ⟨Gq, hl106, hR106, hS⟩
        obtain ⟨t, hRt, htT, htl⟩ := hR106
        obtain ⟨oq, cq, rfl, _, _⟩ := hRt.elim
        have hlT := low_isT htT
        have hll : (lowI t).length = t.length := by simp [lowI]
        have hPO := putI_ok (at_ := vars) hMd.ok.slots hMd.ok.rank hMd.vars_ hMd.varl hlT
        have hMp := hMd.put hPO (by omega)
        have hT := hT.back hS (by first | exact Le.refl _ | assumption) (fun x hx => by try simp only [bkA, bkB, bkC, bkD, bkE] at hx; (rcases hx with rfl | rfl | rfl) <;> simp)
        refine ⟨fun _ _ => hT, ?_⟩
        refine al_step (i := 5) rfl (by kernel_rfl) rfl (op_call_fr hS cf_31 rfl (R09_Low_c _ _ hS.hold _ t hRt (by omega))) ?_
        clear hS
        rintro v107 w ⟨F107, Gw, hR107, hF107, hf107, hl107, hS⟩
        obtain ⟨ow, cw, rfl, _, _⟩ := hR107.elim
        have hlw := hl106.trans hl107
        have hT := hT.back hS (by first | exact Le.refl _ | assumption) (fun x hx => by try simp only [bkA, bkB, bkC, bkD, bkE] at hx; (rcases hx with rfl | rfl | rfl) <;> simp)
        refine ⟨fun _ _ => hT, ?_⟩
        refine al_step (i := 7) rfl (by kernel_rfl) rfl (op_call_rt hS cf_28 rfl (fun _ => .inr rfl) (PutR.mono) (R08_Put_c _ _ hS.hold _ cs tr 400 ⟨_, _, _, _, rfl, hC.mono ECell.mono hlw, hTq.mono EInt.mono hlw⟩ _ (lowI t) (hR107.mono ECell.mono hf107) _ vars (hV.mono EInt.mono hlw) hMd.ok.slots hMd.ok.rank hMd.vars_ hMd.varl hlT (by omega) (by omega) (by omega) (by omega))) ?_
        clear hS
        rintro v109 w ⟨Gp, hl109, hR109, hS⟩
        obtain ⟨hv5, va5, rfl, ⟨oc5, cc5, ot5, ct5, rfl, hC5, hT5⟩, hV5⟩ := hR109
        obtain ⟨ov5, cv5, rfl, _, _⟩ := hV5.elim
        generalize (putI (lowI t) (cs, vars)) = r at hC5 hV5 hMp
        have hlp := hlw.trans hl109
        have hT := hT.back hS (by first | exact Le.refl _ | assumption) (fun x hx => by try simp only [bkA, bkB, bkC, bkD, bkE] at hx; (rcases hx with rfl | rfl | rfl) <;> simp)
        refine ⟨fun _ _ => hT, ?_⟩
        refine al_take (i := 8) rfl (by kernel_rfl) (by kernel_rfl) (by kernel_rfl) rfl (fun _ _ _ h => h) (op_move rfl) rfl (al_take (i := 9) rfl (by kernel_rfl) (by kernel_rfl) (by kernel_rfl) rfl (fun _ _ _ h => h) (op_extract (vs := [.agg #[.slice oc5 r.2.1.length cc5, .slice ot5 tr.length ct5, .int .i64 400], .int .i64 r.1, .slice ov5 r.2.2.length cv5, .int .i64 0]) rfl rfl) rfl (al_take (i := 10) rfl (by kernel_rfl) (by kernel_rfl) (by kernel_rfl) rfl (fun _ _ _ h => h) (op_extract (vs := [.agg #[.slice oc5 r.2.1.length cc5, .slice ot5 tr.length ct5, .int .i64 400], .int .i64 r.1, .slice ov5 r.2.2.length cv5, .int .i64 0]) rfl rfl) rfl (al_take (i := 11) rfl (by kernel_rfl) (by kernel_rfl) (by kernel_rfl) rfl (fun _ _ _ h => h) (op_extract (vs := [.agg #[.slice oc5 r.2.1.length cc5, .slice ot5 tr.length ct5, .int .i64 400], .int .i64 r.1, .slice ov5 r.2.2.length cv5, .int .i64 0]) rfl rfl) rfl (al_take (i := 12) rfl (by kernel_rfl) (by kernel_rfl) (by kernel_rfl) rfl (fun _ _ _ h => h) (op_extract (vs := [.agg #[.slice oc5 r.2.1.length cc5, .slice ot5 tr.length ct5, .int .i64 400], .int .i64 r.1, .slice ov5 r.2.2.length cv5, .int .i64 0]) rfl rfl) rfl ?_))))
        refine al_step0 (i := 14) rfl (by kernel_rfl) (op_storeN (j := 0) hS sz_28 rfl rfl rfl rfl rfl (by simp [Value.oneCell'])) ?_
        clear hS
        rintro _ w hS; (try simp only [List.nil_append, List.cons_append, List.set] at hS)
        refine ⟨no_need (by kernel_rfl), ?_⟩
        refine al_take (i := 15) rfl (by kernel_rfl) (by kernel_rfl) (by kernel_rfl) rfl (fun _ _ _ h => h) (op_assign rfl) rfl (al_take (i := 16) rfl (by kernel_rfl) (by kernel_rfl) (by kernel_rfl) rfl (fun _ _ _ h => h) (op_assign rfl) rfl (al_take (i := 17) rfl (by kernel_rfl) (by kernel_rfl) (by kernel_rfl) rfl (fun _ _ _ h => h) (op_assign rfl) rfl ?_))
        exact K16 _ _ _ _ (by kernel_rfl) (by exact ⟨r, b12, Gp, oc5, ot5, ov5, cc5, ct5, cv5, rfl, hlp, hMp, hC5, hT5, hV5, hS⟩) ((Sub.cons rfl (Sub.cons rfl (Sub.cons rfl (Sub.cons rfl (Sub.cons rfl (Sub.cons rfl (Sub.cons rfl (Sub.cons rfl Sub.nil)))))))))
      ·
       have hTo := hT
       clear hS hT
       rintro e w ⟨r, b12, Gp, oc5, ot5, ov5, cc5, ct5, cv5, rfl, hlp, hMp, hC5, hT5, hV5, hS⟩
       have hT := hTo.back hS (by first | exact Le.refl _ | assumption) (fun x hx => by try simp only [bkA, bkB, bkC, bkD, bkE] at hx; (rcases hx with rfl | rfl | rfl) <;> simp)
       clear hTo
       refine al_done (by kernel_rfl) (pq_then (cw_seq (cw_region (ol_load rfl (op_loadN agg_28 rfl (by rfl) (fun w hw k u hk => (hw.bcell (i := 0) rfl).trans hk)) hS (ol_pure rfl (op_fieldAddr fld_31_0 rfl) ?_)))))
       refine ol_step0  (op_storeBN (o := 0) (j := 3) hS sz_28 rfl rfl rfl rfl (by first | decide | simp) (by simp [Value.oneCell'])) ?_
       clear hS
       rintro _ w hS; (try simp only [List.nil_append, List.cons_append, List.set, List.take_succ_cons, List.take_zero, List.drop_succ_cons, List.drop_zero, List.drop_nil, List.append_nil] at hS)
       refine ol_nil (pq_then (cw_seq (cw_region (ol_pure rfl (op_move rfl) (ol_pure rfl (op_assign rfl) (ol_nil (pq_then ?_)))))))
       refine cw_region (ol_pure rfl (op_fieldAddr fld_31_1 rfl) (ol_load rfl (op_load1 one_26 rfl (fun w hw => (hw.bcell (i := 3) rfl).trans rfl)) hS (ol_pure rfl (op_move rfl) ?_)))
       refine ol_step rfl (op_buildSlice (el := 3) (is := [0]) (xs := [.tmp 119]) (sz := 1) (cs := [.int .i64 r.1]) hS rfl rfl (fun w => by kernel_rfl) rfl (by decide)) ?_
       clear hS
       rintro _ w ⟨s120, rfl, hS⟩
       refine ol_step rfl (op_append (j := 3) hS sl_26 el_3 rfl rfl rfl rfl rfl rfl (by decide) (hS.news (j := 0) rfl) (by simp [Value.oneCell']) (by omega) (by unfold maxLen; omega)) ?_
       clear hS
       rintro _ w ⟨oa2, c_oa2, rfl, hS⟩; (try simp only [List.nil_append, List.cons_append, List.set] at hS); replace hS := SS.drop [] hS; (try simp only [List.nil_append, List.cons_append] at hS)
       refine ol_pure rfl (op_fieldAddr fld_31_1 rfl) ?_
       refine ol_step0  (op_storeB (j := 3) (k := 3) hS sz_26 rfl rfl rfl rfl (by simp)) ?_
       clear hS
       rintro _ w hS; (try simp only [List.nil_append, List.cons_append, List.set] at hS)
       refine ol_nil (pq_in_normal (pq_then (cw_region (ol_pure rfl (op_move rfl) (ol_pure rfl (op_add rfl rfl (by omega) (by omega)) (ol_pure rfl (op_assign rfl) (ol_nil ?_)))))))
       refine pq_loop _ _ (by exact ⟨k + 1, Gp, _, tr, _, _, ms, us, oc5, ot5, oa2, oM, ov5, cc5, ct5, c_oa2, cM, cv5, rfl, by omega, by omega, rfl, hlk.trans hlp, hMp, hC5, hT5, hV5, hus.mono EMk.mono hlp, by simpa using SS.drop [] (SS.drop [] hS)⟩) ((Sub.cons rfl (Sub.cons rfl (Sub.cons rfl (Sub.cons rfl (Sub.cons rfl Sub.nil)))))) (by omega)
   ·
    try simp only [dqT, dqF, dq1, dq2, dq3, dq4, dq5] at h40
    refine ol_guard_no rfl rfl rfl rfl (ol_guard_no rfl rfl rfl rfl (ol_pure rfl (op_pick_f rfl rfl) (ol_nil (pq_then (cw_cond_f rfl (cw_seq (cw_region ?_)))))))
    refine ol_pure rfl (op_fieldAddr fld_66_0 rfl) (ol_load rfl (op_load1 one_3 rfl (fun w hw => (hw.bcell (i := 0) rfl).trans rfl)) hS (ol_pure rfl (op_val (v' := .int .i64 (l[k].1 % 4)) (op_and rfl rfl) (congrArg (Value.int .i64) (and3' _))) (ol_pure rfl (op_eql rfl rfl) (ol_nil (pq_then ?_)))))
    refine cw_cond rfl (fun h73 => ?_) (fun h73 => ?_)
    ·
     try simp only [dqT, dqF, dq1, dq2, dq3, dq4, dq5] at h73
     refine cw_seq (cw_region ?_)
     refine ol_step rfl (op_buildSlice (el := 3) (is := []) (xs := []) (sz := 1) (cs := []) hS rfl rfl (fun w => by kernel_rfl) rfl (by decide)) ?_
     clear hS
     rintro _ w ⟨rts, rfl, hS⟩
     refine ol_pure rfl (op_assign rfl) (ol_nil (pq_then (cw_seq (cw_seq (cw_region (ol_pure rfl (op_fieldAddr fld_66_2 rfl) (ol_load rfl (op_load1 one_5 rfl (fun w hw => (hw.bcell (i := 1) rfl).trans rfl)) hS ?_)))))))
     refine ol_pure rfl (op_conv ⟨_, Try.underlying5⟩ Try.underlying3 rfl (by exact wrap_u8 hAb)) (ol_pure rfl (op_val (v' := .int .i64 (l[k].2.2.1 % 2)) (op_and rfl rfl) (congrArg (Value.int .i64) (and1' _))) (ol_pure rfl (op_assign rfl) (ol_nil (pq_then (cw_block ?_)))))
     refine cw_loop (fun e w n => ∃ (j : Nat) (rl : List Int) (oR : Option Addr) (lR cR : Nat), e = [(0, .slice oa l.length ca), (2, .pointer (some ⟨b2, 0, none⟩)), (3, .pointer (some ⟨b3, 0, none⟩)), (4, .slice oV vars.length cV), (5, .int .i64 (k : Nat)), (7, .int .i64 (ats.length : Nat)), (10, .slice oR lR cR), (11, .int .i64 (j : Nat))] ∧ lR = rl.length ∧ (∀ x ∈ rl, x ∈ ats) ∧ rl.length * 2 ≤ j ∧ j ≤ ats.length + 1 ∧ n = ats.length + 2 - j ∧ SS G w0 Gk [.row oR lR cR 3 1 (rl.map (Value.int .i64)), .blk b6 66 [.int .i64 l[k].1, .slice oT l[k].2.1.length cT, .int .u8 l[k].2.2.1, .int .u8 l[k].2.2.2], .row oA ats.length cA 3 1 (ats.map (Value.int .i64)), .blk b3 31 [.slice oc cs.length cc, .slice ot tr.length ct, .int .i64 400, .slice oA ats.length cA, .slice oM ms.length cM], .row oM ms.length cM 46 3 us, .blk b2 31 [.slice none 0 0, .slice none 0 0, .int .i64 0, .slice none 0 0, .slice none 0 0]] w) _ _ (by exact ⟨(l[k].2.2.1 % 2).toNat, [], rts, 0, 0, by rw [Int.toNat_of_nonneg (by omega)], rfl, by simp, by simp, by omega, rfl, hS⟩) ((Sub.cons rfl (Sub.cons rfl (Sub.cons rfl (Sub.cons rfl (Sub.cons rfl (Sub.cons rfl (Sub.cons rfl (Sub.cons rfl Sub.nil))))))))) ?_
     clear hS
     rintro e w n ⟨j, rl, oR, lR, cR, rfl, rfl, hrl, hrj, hj, rfl, hS⟩
     refine cw_seq (cw_seq (cw_region (ol_pure rfl (op_move rfl) (ol_pure rfl (op_move rfl) (ol_pure rfl (op_lss rfl rfl) (ol_nil (pq_then ?_)))))))
     refine cw_cond rfl (fun h81 => ?_) (fun h81 => ?_)
     ·
      try simp only [dqT, dqF, dq1, dq2, dq3, dq4, dq5] at h81
      have hjl : j < ats.length := by omega
      have hgj : (ats.map (Value.int .i64))[j]? = some (.int .i64 ats[j]) := by simp [hjl]
      have hoA := (hS.news (j := 2) rfl _ _ hgj).1
      refine cw_skip (pq_then (cw_seq (cw_block (cw_region (ol_pure rfl (op_move rfl) (ol_pure rfl (op_fieldAddr fld_31_1 rfl) (ol_load rfl (op_load1 one_26 rfl (fun w hw => (hw.bcell (i := 3) rfl).trans rfl)) hS ?_)))))))
      refine ol_pure rfl (op_move rfl) (ol_pure rfl (op_indexN sl_26 rfl rfl hjl hoA) (ol_load rfl (op_load1 one_3 rfl (fun w hw => hw.rcell (i := 2) rfl (by rw [Nat.mul_one]; exact hgj))) hS ?_))
      refine ol_step rfl (op_buildSlice (el := 3) (is := [0]) (xs := [.tmp 89]) (sz := 1) (cs := [.int .i64 ats[j]]) hS rfl rfl (fun w => by kernel_rfl) rfl (by decide)) ?_
      clear hS
      rintro _ w ⟨s90, rfl, hS⟩
      refine ol_step rfl (op_append (j := 1) hS sl_26 el_3 rfl rfl rfl rfl rfl rfl (by decide) (hS.news (j := 0) rfl) (by simp [Value.oneCell']) (by omega) (by unfold maxLen; omega)) ?_
      clear hS
      rintro _ w ⟨oq, c_oq, rfl, hS⟩; (try simp only [List.nil_append, List.cons_append, List.set] at hS); replace hS := SS.drop [] hS; (try simp only [List.nil_append, List.cons_append] at hS)
      refine ol_pure rfl (op_assign rfl) (ol_nil (pq_in_normal (pq_then (cw_region (ol_pure rfl (op_move rfl) (ol_pure rfl (op_add rfl rfl (by omega) (by omega)) (ol_pure rfl (op_assign rfl) ?_)))))))
      refine ol_nil ?_
      refine pq_loop _ _ (by exact ⟨j + 2, rl ++ [ats[j]], oq, rl.length + 1, c_oq, rfl, by simp, fun x hx => (List.mem_append.1 hx).elim (hrl x) (fun h => by rw [show x = ats[j] from by simpa using h]; exact List.getElem_mem hjl), by simp; omega, by omega, rfl, by simpa using hS⟩) ((Sub.cons rfl (Sub.cons rfl (Sub.cons rfl (Sub.cons rfl (Sub.cons rfl (Sub.cons rfl (Sub.cons rfl (Sub.cons rfl Sub.nil))))))))) (by omega)
     ·
      try simp only [dqT, dqF, dq1, dq2, dq3, dq4, dq5] at h81
      refine cw_exit (pq_exit (pq_exit (pq_in_exit (pq_then ?_))))
      obtain ⟨Gr, hlr, hSr, hRr⟩ := SS.give' rl [] EInt.mono hS (by decide) ((Rows.ints (fun x hx => by
        have := hMd.at_ x (hrl x hx)
        omega)).mono EInt.mono (fun b o hb => by cases hb)) rfl
      clear hS
      have hS := hSr
      clear hSr
      simp only [List.nil_append] at hS
      have hMm := hMd.mark hrl (by omega)
      refine al_start' hS (hS.take 3) (by kernel_rfl) rfl (fun w hS hT => ?_)
      refine al_take (i := 0) rfl (by kernel_rfl) (by kernel_rfl) (by kernel_rfl) rfl (fun _ _ _ h => h) (op_fieldAddr fld_31_2 rfl) rfl (al_load (i := 1) rfl (by kernel_rfl) (by kernel_rfl) (by kernel_rfl) rfl (fun _ _ _ h => h) (by exact op_load1 one_29 rfl (fun w hw => (hw.bcell (i := 2) rfl).trans rfl)) rfl hT (al_take (i := 2) rfl (by kernel_rfl) (by kernel_rfl) (by kernel_rfl) rfl (fun _ _ _ h => h) (op_fieldAddr fld_31_0 rfl) rfl (al_load (i := 3) rfl (by kernel_rfl) (by kernel_rfl) (by kernel_rfl) rfl (fun _ _ _ h => h) (by exact op_loadBS (i := 2) (o := 0) (vs := [.slice oc cs.length cc, .slice ot tr.length ct, .int .i64 400]) agg_28 rfl rfl rfl rfl) rfl hT (al_take (i := 4) rfl (by kernel_rfl) (by kernel_rfl) (by kernel_rfl) rfl (fun _ _ _ h => h) (op_move rfl) rfl ?_))))
      refine al_step (i := 5) rfl (by kernel_rfl) rfl (op_call_sc hS cf_30 rfl (R08_Mark_c _ _ hS.hold _ cs tr 400 ⟨_, _, _, _, rfl, hC.mono ECell.mono hlr, hTq.mono EInt.mono hlr⟩ oR rl.length cR)) ?_
      clear hS
      rintro _ w ⟨rfl, hS⟩
      have hT := hT.back hS (by first | exact Le.refl _ | assumption) (fun x hx => by try simp only [bkA, bkB, bkC, bkD, bkE] at hx; (rcases hx with rfl | rfl | rfl) <;> simp)
      refine ⟨fun _ _ => hT, ?_⟩
      refine al_step (i := 6) rfl (by kernel_rfl) rfl (op_buildSlice (el := 46) (is := [0]) (xs := [.tmp 97]) (sz := 3) (cs := [.int .i64 (cs.length : Nat), .int .i64 (tr.length : Nat), .slice oR rl.length cR]) hS rfl rfl (fun w => by kernel_rfl) rfl (by decide)) ?_
      clear hS
      rintro _ w ⟨s98, rfl, hS⟩
      have hT := hT.back hS (by first | exact Le.refl _ | assumption) (fun x hx => by try simp only [bkA, bkB, bkC, bkD, bkE] at hx; (rcases hx with rfl | rfl | rfl) <;> simp)
      refine ⟨fun _ _ => hT, ?_⟩
      refine al_step (i := 7) rfl (by kernel_rfl) rfl (op_append (j := 4) hS sl_29 el_46 rfl rfl rfl rfl rfl rfl (by decide) (hS.news (j := 0) rfl) (by intro u hu; simp only [List.mem_cons, List.not_mem_nil, or_false] at hu; rcases hu with rfl | rfl | rfl <;> rfl) (by omega) (by unfold maxLen; omega)) ?_
      clear hS
      rintro _ w ⟨om2, c_om2, rfl, hS⟩; (try simp only [List.nil_append, List.cons_append, List.set] at hS); replace hS := SS.drop [] hS; (try simp only [List.nil_append, List.cons_append] at hS)
      have hT := hT.back hS (by first | exact Le.refl _ | assumption) (fun x hx => by try simp only [bkA, bkB, bkC, bkD, bkE] at hx; (rcases hx with rfl | rfl | rfl) <;> simp)
      refine ⟨fun _ _ => hT, ?_⟩
      refine al_take (i := 8) rfl (by kernel_rfl) (by kernel_rfl) (by kernel_rfl) rfl (fun _ _ _ h => h) (op_fieldAddr fld_31_2 rfl) rfl ?_
      refine al_step0 (i := 9) rfl (by kernel_rfl) (op_storeB (j := 2) (k := 4) hS sz_29 rfl rfl rfl rfl (by simp)) ?_
      clear hS
      rintro _ w hS; (try simp only [List.nil_append, List.cons_append, List.set] at hS)
      refine ⟨no_need (by kernel_rfl), ?_⟩
      refine al_done (by kernel_rfl) (pq_in_normal (pq_then (cw_region (ol_pure rfl (op_move rfl) (ol_pure rfl (op_add rfl rfl (by omega) (by omega)) (ol_pure rfl (op_assign rfl) (ol_nil ?_)))))))
      refine pq_loop _ _ (by exact ⟨k + 1, Gr, cs, tr, ats, vars, _, _, oc, ot, oA, om2, oV, cc, ct, cA, c_om2, cV, rfl, by omega, by omega, rfl, hlk.trans hlr, hMm, hC.mono ECell.mono hlr, hTq.mono EInt.mono hlr, hV.mono EInt.mono hlr, (hus.mono EMk.mono hlr).snoc (x := ⟨(cs.length : Nat), (tr.length : Nat), rl⟩) rfl ⟨_, rfl, hRr, by simp only; omega, by simp only; omega⟩, by simpa using SS.drop [] hS⟩) ((Sub.cons rfl (Sub.cons rfl (Sub.cons rfl (Sub.cons rfl (Sub.cons rfl Sub.nil)))))) (by omega)
    ·
     try simp only [dqT, dqF, dq1, dq2, dq3, dq4, dq5] at h73
     refine cw_seq ?_
     refine al_start' hS (hS.take 3) (by kernel_rfl) rfl (fun w hS hT => ?_)
     refine al_take (i := 0) rfl (by kernel_rfl) (by kernel_rfl) (by kernel_rfl) rfl (fun _ _ _ h => h) (op_fieldAddr fld_31_0 rfl) rfl (al_load (i := 1) rfl (by kernel_rfl) (by kernel_rfl) (by kernel_rfl) rfl (fun _ _ _ h => h) (by exact op_loadBS (i := 2) (o := 0) (vs := [.slice oc cs.length cc, .slice ot tr.length ct, .int .i64 400]) agg_28 rfl rfl rfl rfl) rfl hT (al_take (i := 2) rfl (by kernel_rfl) (by kernel_rfl) (by kernel_rfl) rfl (fun _ _ _ h => h) (op_fieldAddr fld_66_1 rfl) rfl (al_load (i := 3) rfl (by kernel_rfl) (by kernel_rfl) (by kernel_rfl) rfl (fun _ _ _ h => h) (by exact op_load1 one_59 rfl (fun w hw => (hw.bcell (i := 0) rfl).trans rfl)) rfl hT (al_take (i := 6) rfl (by kernel_rfl) (by kernel_rfl) (by kernel_rfl) rfl (fun _ _ _ h => h) (op_move rfl) rfl ?_))))
     refine al_meet (fuel2 := 0) (ds2 := [17, 16, 15, 14, 13, 12, 11, 10, 9, 8, 7, 6, 5, 4, 3, 2, 1, 0]) (fun e w => ∃ (r : Int × Stt) (b12 : Nat) (Gp : GH) (oc5 ot5 ov5 : Option Addr) (cc5 ct5 cv5 : Nat), e = [(0, .slice oa l.length ca), (2, .pointer (some ⟨b2, 0, none⟩)), (3, .pointer (some ⟨b3, 0, none⟩)), (4, .slice oV vars.length cV), (5, .int .i64 (k : Nat)), (12, .pointer (some ⟨b12, 0, none⟩)), (13, .int .i64 r.1), (14, .slice ov5 r.2.2.length cv5)] ∧ Le Gk Gp ∧ MadeI (k + 1) r.2.1 tr (ats ++ [r.1]) r.2.2 ms ∧ RSl 3 ECell Gp (.slice oc5 r.2.1.length cc5) r.2.1 ∧ RSl 1 EInt Gp (.slice ot5 tr.length ct5) tr ∧ RSl 1 EInt Gp (.slice ov5 r.2.2.length cv5) r.2.2 ∧ SS G w0 Gp [.blk b12 28 [.slice oc5 r.2.1.length cc5, .slice ot5 tr.length ct5, .int .i64 400], .blk b6 66 [.int .i64 l[k].1, .slice oT l[k].2.1.length cT, .int .u8 l[k].2.2.1, .int .u8 l[k].2.2.2], .row oA ats.length cA 3 1 (ats.map (Value.int .i64)), .blk b3 31 [.slice oc cs.length cc, .slice ot tr.length ct, .int .i64 400, .slice oA ats.length cA, .slice oM ms.length cM], .row oM ms.length cM 46 3 us, .blk b2 31 [.slice none 0 0, .slice none 0 0, .int .i64 0, .slice none 0 0, .slice none 0 0]] w) (fun K16 => ?_) ?_
     ·
      refine al_two (i := 4) (j := 13) (by kernel_rfl) (fun a ha => ?_) (fun a ha => ?_)
      ·
       refine wpOp_of_opk (i := 4) rfl ha (op_call_rt hS cf_32 rfl (fun _ => .inr rfl) (fun _ _ _ hl ⟨t, h1, h2⟩ => ⟨t, h1.mono ECell.mono hl, h2⟩) (R03_Made_c _ _ hS.hold _ l[k].2.1 (hvT.mono ECell.mono hlk))) ?_
       clear hS
       rintro v106 w ⟨Gq, hl106, hR106, hS⟩
       obtain ⟨t, hRt, htT, htl⟩ := hR106
       obtain ⟨oq, cq, rfl, _, _⟩ := hRt.elim
       have hlT := low_isT htT
       have hll : (lowI t).length = t.length := by simp [lowI]
       have hPO := putI_ok (at_ := vars) hMd.ok.slots hMd.ok.rank hMd.vars_ hMd.varl hlT
       have hMp := hMd.put hPO (by omega)
       have hT := hT.back hS (by first | exact Le.refl _ | assumption) (fun x hx => by try simp only [bkA, bkB, bkC, bkD, bkE] at hx; (rcases hx with rfl | rfl | rfl) <;> simp)
       refine ⟨fun _ _ => hT, ?_⟩
       refine al_at ?_ (ha.put (blt_lt rfl) _)
       refine al_two (i := 5) (j := 13) (by kernel_rfl) (fun a ha => ?_) (fun a ha => ?_)
       ·
        refine wpOp_of_opk (i := 5) rfl ha (op_call_fr hS cf_31 rfl (R09_Low_c _ _ hS.hold _ t hRt (by omega))) ?_
        clear hS
        rintro v107 w ⟨F107, Gw, hR107, hF107, hf107, hl107, hS⟩
        obtain ⟨ow, cw, rfl, _, _⟩ := hR107.elim
        have hlw := hl106.trans hl107
        have hT := hT.back hS (by first | exact Le.refl _ | assumption) (fun x hx => by try simp only [bkA, bkB, bkC, bkD, bkE] at hx; (rcases hx with rfl | rfl | rfl) <;> simp)
        refine ⟨fun _ _ => hT, ?_⟩
        refine al_at ?_ (ha.put (blt_lt rfl) _)
        refine al_two (i := 7) (j := 13) (by kernel_rfl) (fun a ha => ?_) (fun a ha => ?_)
        ·
         refine wpOp_of_opk (i := 7) rfl ha (op_call_rt hS cf_28 rfl (fun _ => .inr rfl) (PutR.mono) (R08_Put_c _ _ hS.hold _ cs tr 400 ⟨_, _, _, _, rfl, hC.mono ECell.mono hlw, hTq.mono EInt.mono hlw⟩ _ (lowI t) (hR107.mono ECell.mono hf107) _ vars (hV.mono EInt.mono hlw) hMd.ok.slots hMd.ok.rank hMd.vars_ hMd.varl hlT (by omega) (by omega) (by omega) (by omega))) ?_
         clear hS
         rintro v109 w ⟨Gp, hl109, hR109, hS⟩
         obtain ⟨hv5, va5, rfl, ⟨oc5, cc5, ot5, ct5, rfl, hC5, hT5⟩, hV5⟩ := hR109
         obtain ⟨ov5, cv5, rfl, _, _⟩ := hV5.elim
         generalize (putI (lowI t) (cs, vars)) = r at hC5 hV5 hMp
         have hlp := hlw.trans hl109
         have hT := hT.back hS (by first | exact Le.refl _ | assumption) (fun x hx => by try simp only [bkA, bkB, bkC, bkD, bkE] at hx; (rcases hx with rfl | rfl | rfl) <;> simp)
         refine ⟨fun _ _ => hT, ?_⟩
         refine al_at ?_ (ha.put (blt_lt rfl) _)
         refine al_take (i := 8) rfl (by kernel_rfl) (by kernel_rfl) (by kernel_rfl) rfl (fun _ _ _ h => h) (op_move rfl) rfl (al_take (i := 9) rfl (by kernel_rfl) (by kernel_rfl) (by kernel_rfl) rfl (fun _ _ _ h => h) (op_extract (vs := [.agg #[.slice oc5 r.2.1.length cc5, .slice ot5 tr.length ct5, .int .i64 400], .int .i64 r.1, .slice ov5 r.2.2.length cv5, .int .i64 0]) rfl rfl) rfl (al_take (i := 10) rfl (by kernel_rfl) (by kernel_rfl) (by kernel_rfl) rfl (fun _ _ _ h => h) (op_extract (vs := [.agg #[.slice oc5 r.2.1.length cc5, .slice ot5 tr.length ct5, .int .i64 400], .int .i64 r.1, .slice ov5 r.2.2.length cv5, .int .i64 0]) rfl rfl) rfl (al_take (i := 11) rfl (by kernel_rfl) (by kernel_rfl) (by kernel_rfl) rfl (fun _ _ _ h => h) (op_extract (vs := [.agg #[.slice oc5 r.2.1.length cc5, .slice ot5 tr.length ct5, .int .i64 400], .int .i64 r.1, .slice ov5 r.2.2.length cv5, .int .i64 0]) rfl rfl) rfl (al_take (i := 12) rfl (by kernel_rfl) (by kernel_rfl) (by kernel_rfl) rfl (fun _ _ _ h => h) (op_extract (vs := [.agg #[.slice oc5 r.2.1.length cc5, .slice ot5 tr.length ct5, .int .i64 400], .int .i64 r.1, .slice ov5 r.2.2.length cv5, .int .i64 0]) rfl rfl) rfl ?_))))
         refine al_step (i := 13) rfl (by kernel_rfl) rfl (op_alloc hS el_28 rfl) ?_
         clear hS
         rintro _ w ⟨b12, rfl, hS⟩
         have hT := hT.back hS (by first | exact Le.refl _ | assumption) (fun x hx => by try simp only [bkA, bkB, bkC, bkD, bkE] at hx; (rcases hx with rfl | rfl | rfl) <;> simp)
         refine ⟨fun _ _ => hT, ?_⟩
         refine al_step0 (i := 14) rfl (by kernel_rfl) (op_storeN (j := 0) hS sz_28 rfl rfl rfl rfl rfl (by simp [Value.oneCell'])) ?_
         clear hS
         rintro _ w hS; (try simp only [List.nil_append, List.cons_append, List.set] at hS)
         refine ⟨no_need (by kernel_rfl), ?_⟩
         refine al_take (i := 15) rfl (by kernel_rfl) (by kernel_rfl) (by kernel_rfl) rfl (fun _ _ _ h => h) (op_assign rfl) rfl (al_take (i := 16) rfl (by kernel_rfl) (by kernel_rfl) (by kernel_rfl) rfl (fun _ _ _ h => h) (op_assign rfl) rfl (al_take (i := 17) rfl (by kernel_rfl) (by kernel_rfl) (by kernel_rfl) rfl (fun _ _ _ h => h) (op_assign rfl) rfl ?_))
         exact K16 _ _ _ _ (by kernel_rfl) (by exact ⟨r, b12, Gp, oc5, ot5, ov5, cc5, ct5, cv5, rfl, hlp, hMp, hC5, hT5, hV5, hS⟩) ((Sub.cons rfl (Sub.cons rfl (Sub.cons rfl (Sub.cons rfl (Sub.cons rfl (Sub.cons rfl (Sub.cons rfl (Sub.cons rfl Sub.nil)))))))))
        ·
         refine wpOp_of_opk (i := 13) rfl ha (op_alloc hS el_28 rfl) ?_
         clear hS
         rintro _ w ⟨b12, rfl, hS⟩
         have hT := hT.back hS (by first | exact Le.refl _ | assumption) (fun x hx => by try simp only [bkA, bkB, bkC, bkD, bkE] at hx; (rcases hx with rfl | rfl | rfl) <;> simp)
         refine ⟨fun _ _ => hT, ?_⟩
         refine al_at ?_ (ha.put (blt_lt rfl) _)
         refine al_step (i := 7) rfl (by kernel_rfl) rfl (op_call_rt hS cf_28 rfl (fun _ => .inr rfl) (PutR.mono) (R08_Put_c _ _ hS.hold _ cs tr 400 ⟨_, _, _, _, rfl, hC.mono ECell.mono hlw, hTq.mono EInt.mono hlw⟩ _ (lowI t) (hR107.mono ECell.mono hf107) _ vars (hV.mono EInt.mono hlw) hMd.ok.slots hMd.ok.rank hMd.vars_ hMd.varl hlT (by omega) (by omega) (by omega) (by omega))) ?_
         clear hS
         rintro v109 w ⟨Gp, hl109, hR109, hS⟩
         obtain ⟨hv5, va5, rfl, ⟨oc5, cc5, ot5, ct5, rfl, hC5, hT5⟩, hV5⟩ := hR109
         obtain ⟨ov5, cv5, rfl, _, _⟩ := hV5.elim
         generalize (putI (lowI t) (cs, vars)) = r at hC5 hV5 hMp
         have hlp := hlw.trans hl109
         have hT := hT.back hS (by first | exact Le.refl _ | assumption) (fun x hx => by try simp only [bkA, bkB, bkC, bkD, bkE] at hx; (rcases hx with rfl | rfl | rfl) <;> simp)
         refine ⟨fun _ _ => hT, ?_⟩
         refine al_take (i := 8) rfl (by kernel_rfl) (by kernel_rfl) (by kernel_rfl) rfl (fun _ _ _ h => h) (op_move rfl) rfl (al_take (i := 9) rfl (by kernel_rfl) (by kernel_rfl) (by kernel_rfl) rfl (fun _ _ _ h => h) (op_extract (vs := [.agg #[.slice oc5 r.2.1.length cc5, .slice ot5 tr.length ct5, .int .i64 400], .int .i64 r.1, .slice ov5 r.2.2.length cv5, .int .i64 0]) rfl rfl) rfl (al_take (i := 10) rfl (by kernel_rfl) (by kernel_rfl) (by kernel_rfl) rfl (fun _ _ _ h => h) (op_extract (vs := [.agg #[.slice oc5 r.2.1.length cc5, .slice ot5 tr.length ct5, .int .i64 400], .int .i64 r.1, .slice ov5 r.2.2.length cv5, .int .i64 0]) rfl rfl) rfl (al_take (i := 11) rfl (by kernel_rfl) (by kernel_rfl) (by kernel_rfl) rfl (fun _ _ _ h => h) (op_extract (vs := [.agg #[.slice oc5 r.2.1.length cc5, .slice ot5 tr.length ct5, .int .i64 400], .int .i64 r.1, .slice ov5 r.2.2.length cv5, .int .i64 0]) rfl rfl) rfl (al_take (i := 12) rfl (by kernel_rfl) (by kernel_rfl) (by kernel_rfl) rfl (fun _ _ _ h => h) (op_extract (vs := [.agg #[.slice oc5 r.2.1.length cc5, .slice ot5 tr.length ct5, .int .i64 400], .int .i64 r.1, .slice ov5 r.2.2.length cv5, .int .i64 0]) rfl rfl) rfl ?_))))
         refine al_step0 (i := 14) rfl (by kernel_rfl) (op_storeN (j := 0) hS sz_28 rfl rfl rfl rfl rfl (by simp [Value.oneCell'])) ?_
         clear hS
         rintro _ w hS; (try simp only [List.nil_append, List.cons_append, List.set] at hS)
         refine ⟨no_need (by kernel_rfl), ?_⟩
         refine al_take (i := 15) rfl (by kernel_rfl) (by kernel_rfl) (by kernel_rfl) rfl (fun _ _ _ h => h) (op_assign rfl) rfl (al_take (i := 16) rfl (by kernel_rfl) (by kernel_rfl) (by kernel_rfl) rfl (fun _ _ _ h => h) (op_assign rfl) rfl (al_take (i := 17) rfl (by kernel_rfl) (by kernel_rfl) (by kernel_rfl) rfl (fun _ _ _ h => h) (op_assign rfl) rfl ?_))
         exact K16 _ _ _ _ (by kernel_rfl) (by exact ⟨r, b12, Gp, oc5, ot5, ov5, cc5, ct5, cv5, rfl, hlp, hMp, hC5, hT5, hV5, hS⟩) ((Sub.cons rfl (Sub.cons rfl (Sub.cons rfl (Sub.cons rfl (Sub.cons rfl (Sub.cons rfl (Sub.cons rfl (Sub.cons rfl Sub.nil)))))))))
       ·
        refine wpOp_of_opk (i := 13) rfl ha (op_alloc hS el_28 rfl) ?_
        clear hS
        rintro _ w ⟨b12, rfl, hS⟩
        have hT := hT.back hS (by first | exact Le.refl _ | assumption) (fun x hx => by try simp only [bkA, bkB, bkC, bkD, bkE] at hx; (rcases hx with rfl | rfl | rfl) <;> simp)
        refine ⟨fun _ _ => hT, ?_⟩
        refine al_at ?_ (ha.put (blt_lt rfl) _)
        refine al_step (i := 5) rfl (by kernel_rfl) rfl (op_call_fr hS cf_31 rfl (R09_Low_c _ _ hS.hold _ t hRt (by omega))) ?_
        clear hS
        rintro v107 w ⟨F107, Gw, hR107, hF107, hf107, hl107, hS⟩
        obtain ⟨ow, cw, rfl, _, _⟩ := hR107.elim
        have hlw := hl106.trans hl107
        have hT := hT.back hS (by first | exact Le.refl _ | assumption) (fun x hx => by try simp only [bkA, bkB, bkC, bkD, bkE] at hx; (rcases hx with rfl | rfl | rfl) <;> simp)
        refine ⟨fun _ _ => hT, ?_⟩
        refine al_step (i := 7) rfl (by kernel_rfl) rfl (op_call_rt hS cf_28 rfl (fun _ => .inr rfl) (PutR.mono) (R08_Put_c _ _ hS.hold _ cs tr 400 ⟨_, _, _, _, rfl, hC.mono ECell.mono hlw, hTq.mono EInt.mono hlw⟩ _ (lowI t) (hR107.mono ECell.mono hf107) _ vars (hV.mono EInt.mono hlw) hMd.ok.slots hMd.ok.rank hMd.vars_ hMd.varl hlT (by omega) (by omega) (by omega) (by omega))) ?_
        clear hS
        rintro v109 w ⟨Gp, hl109, hR109, hS⟩
        obtain ⟨hv5, va5, rfl, ⟨oc5, cc5, ot5, ct5, rfl, hC5, hT5⟩, hV5⟩ := hR109
        obtain ⟨ov5, cv5, rfl, _, _⟩ := hV5.elim
        generalize (putI (lowI t) (cs, vars)) = r at hC5 hV5 hMp
        have hlp := hlw.trans hl109
        have hT := hT.back hS (by first | exact Le.refl _ | assumption) (fun x hx => by try simp only [bkA, bkB, bkC, bkD, bkE] at hx; (rcases hx with rfl | rfl | rfl) <;> simp)
        refine ⟨fun _ _ => hT, ?_⟩
        refine al_take (i := 8) rfl (by kernel_rfl) (by kernel_rfl) (by kernel_rfl) rfl (fun _ _ _ h => h) (op_move rfl) rfl (al_take (i := 9) rfl (by kernel_rfl) (by kernel_rfl) (by kernel_rfl) rfl (fun _ _ _ h => h) (op_extract (vs := [.agg #[.slice oc5 r.2.1.length cc5, .slice ot5 tr.length ct5, .int .i64 400], .int .i64 r.1, .slice ov5 r.2.2.length cv5, .int .i64 0]) rfl rfl) rfl (al_take (i := 10) rfl (by kernel_rfl) (by kernel_rfl) (by kernel_rfl) rfl (fun _ _ _ h => h) (op_extract (vs := [.agg #[.slice oc5 r.2.1.length cc5, .slice ot5 tr.length ct5, .int .i64 400], .int .i64 r.1, .slice ov5 r.2.2.length cv5, .int .i64 0]) rfl rfl) rfl (al_take (i := 11) rfl (by kernel_rfl) (by kernel_rfl) (by kernel_rfl) rfl (fun _ _ _ h => h) (op_extract (vs := [.agg #[.slice oc5 r.2.1.length cc5, .slice ot5 tr.length ct5, .int .i64 400], .int .i64 r.1, .slice ov5 r.2.2.length cv5, .int .i64 0]) rfl rfl) rfl (al_take (i := 12) rfl (by kernel_rfl) (by kernel_rfl) (by kernel_rfl) rfl (fun _ _ _ h => h) (op_extract (vs := [.agg #[.slice oc5 r.2.1.length cc5, .slice ot5 tr.length ct5, .int .i64 400], .int .i64 r.1, .slice ov5 r.2.2.length cv5, .int .i64 0]) rfl rfl) rfl ?_))))
        refine al_step0 (i := 14) rfl (by kernel_rfl) (op_storeN (j := 0) hS sz_28 rfl rfl rfl rfl rfl (by simp [Value.oneCell'])) ?_
        clear hS
        rintro _ w hS; (try simp only [List.nil_append, List.cons_append, List.set] at hS)
        refine ⟨no_need (by kernel_rfl), ?_⟩
        refine al_take (i := 15) rfl (by kernel_rfl) (by kernel_rfl) (by kernel_rfl) rfl (fun _ _ _ h => h) (op_assign rfl) rfl (al_take (i := 16) rfl (by kernel_rfl) (by kernel_rfl) (by kernel_rfl) rfl (fun _ _ _ h => h) (op_assign rfl) rfl (al_take (i := 17) rfl (by kernel_rfl) (by kernel_rfl) (by kernel_rfl) rfl (fun _ _ _ h => h) (op_assign rfl) rfl ?_))
        exact K16 _ _ _ _ (by kernel_rfl) (by exact ⟨r, b12, Gp, oc5, ot5, ov5, cc5, ct5, cv5, rfl, hlp, hMp, hC5, hT5, hV5, hS⟩) ((Sub.cons rfl (Sub.cons rfl (Sub.cons rfl (Sub.cons rfl (Sub.cons rfl (Sub.cons rfl (Sub.cons rfl (Sub.cons rfl Sub.nil)))))))))
      ·
       refine wpOp_of_opk (i := 13) rfl ha (op_alloc hS el_28 rfl) ?_
       clear hS
       rintro _ w ⟨b12, rfl, hS⟩
       have hT := hT.back hS (by first | exact Le.refl _ | assumption) (fun x hx => by try simp only [bkA, bkB, bkC, bkD, bkE] at hx; (rcases hx with rfl | rfl | rfl) <;> simp)
       refine ⟨fun _ _ => hT, ?_⟩
       refine al_at ?_ (ha.put (blt_lt rfl) _)
       refine al_step (i := 4) rfl (by kernel_rfl) rfl (op_call_rt hS cf_32 rfl (fun _ => .inr rfl) (fun _ _ _ hl ⟨t, h1, h2⟩ => ⟨t, h1.mono ECell.mono hl, h2⟩) (R03_Made_c _ _ hS.hold _ l[k].2.1 (hvT.mono ECell.mono hlk))) ?_
       clear hS
       rintro v106 w ⟨Gq, hl106, hR106, hS⟩
       obtain ⟨t, hRt, htT, htl⟩ := hR106
       obtain ⟨oq, cq, rfl, _, _⟩ := hRt.elim
       have hlT := low_isT htT
       have hll : (lowI t).length = t.length := by simp [lowI]
       have hPO := putI_ok (at_ := vars) hMd.ok.slots hMd.ok.rank hMd.vars_ hMd.varl hlT
       have hMp := hMd.put hPO (by omega)
       have hT := hT.back hS (by first | exact Le.refl _ | assumption) (fun x hx => by try simp only [bkA, bkB, bkC, bkD, bkE] at hx; (rcases hx with rfl | rfl | rfl) <;> simp)
       refine ⟨fun _ _ => hT, ?_⟩
       refine al_step (i := 5) rfl (by kernel_rfl) rfl (op_call_fr hS cf_31 rfl (R09_Low_c _ _ hS.hold _ t hRt (by omega))) ?_
       clear hS
       rintro v107 w ⟨F107, Gw, hR107, hF107, hf107, hl107, hS⟩
       obtain ⟨ow, cw, rfl, _, _⟩ := hR107.elim
       have hlw := hl106.trans hl107
       have hT := hT.back hS (by first | exact Le.refl _ | assumption) (fun x hx => by try simp only [bkA, bkB, bkC, bkD, bkE] at hx; (rcases hx with rfl | rfl | rfl) <;> simp)
       refine ⟨fun _ _ => hT, ?_⟩
       refine al_step (i := 7) rfl (by kernel_rfl) rfl (op_call_rt hS cf_28 rfl (fun _ => .inr rfl) (PutR.mono) (R08_Put_c _ _ hS.hold _ cs tr 400 ⟨_, _, _, _, rfl, hC.mono ECell.mono hlw, hTq.mono EInt.mono hlw⟩ _ (lowI t) (hR107.mono ECell.mono hf107) _ vars (hV.mono EInt.mono hlw) hMd.ok.slots hMd.ok.rank hMd.vars_ hMd.varl hlT (by omega) (by omega) (by omega) (by omega))) ?_
       clear hS
       rintro v109 w ⟨Gp, hl109, hR109, hS⟩
       obtain ⟨hv5, va5, rfl, ⟨oc5, cc5, ot5, ct5, rfl, hC5, hT5⟩, hV5⟩ := hR109
       obtain ⟨ov5, cv5, rfl, _, _⟩ := hV5.elim
       generalize (putI (lowI t) (cs, vars)) = r at hC5 hV5 hMp
       have hlp := hlw.trans hl109
       have hT := hT.back hS (by first | exact Le.refl _ | assumption) (fun x hx => by try simp only [bkA, bkB, bkC, bkD, bkE] at hx; (rcases hx with rfl | rfl | rfl) <;> simp)
       refine ⟨fun _ _ => hT, ?_⟩
       refine al_take (i := 8) rfl (by kernel_rfl) (by kernel_rfl) (by kernel_rfl) rfl (fun _ _ _ h => h) (op_move rfl) rfl (al_take (i := 9) rfl (by kernel_rfl) (by kernel_rfl) (by kernel_rfl) rfl (fun _ _ _ h => h) (op_extract (vs := [.agg #[.slice oc5 r.2.1.length cc5, .slice ot5 tr.length ct5, .int .i64 400], .int .i64 r.1, .slice ov5 r.2.2.length cv5, .int .i64 0]) rfl rfl) rfl (al_take (i := 10) rfl (by kernel_rfl) (by kernel_rfl) (by kernel_rfl) rfl (fun _ _ _ h => h) (op_extract (vs := [.agg #[.slice oc5 r.2.1.length cc5, .slice ot5 tr.length ct5, .int .i64 400], .int .i64 r.1, .slice ov5 r.2.2.length cv5, .int .i64 0]) rfl rfl) rfl (al_take (i := 11) rfl (by kernel_rfl) (by kernel_rfl) (by kernel_rfl) rfl (fun _ _ _ h => h) (op_extract (vs := [.agg #[.slice oc5 r.2.1.length cc5, .slice ot5 tr.length ct5, .int .i64 400], .int .i64 r.1, .slice ov5 r.2.2.length cv5, .int .i64 0]) rfl rfl) rfl (al_take (i := 12) rfl (by kernel_rfl) (by kernel_rfl) (by kernel_rfl) rfl (fun _ _ _ h => h) (op_extract (vs := [.agg #[.slice oc5 r.2.1.length cc5, .slice ot5 tr.length ct5, .int .i64 400], .int .i64 r.1, .slice ov5 r.2.2.length cv5, .int .i64 0]) rfl rfl) rfl ?_))))
       refine al_step0 (i := 14) rfl (by kernel_rfl) (op_storeN (j := 0) hS sz_28 rfl rfl rfl rfl rfl (by simp [Value.oneCell'])) ?_
       clear hS
       rintro _ w hS; (try simp only [List.nil_append, List.cons_append, List.set] at hS)
       refine ⟨no_need (by kernel_rfl), ?_⟩
       refine al_take (i := 15) rfl (by kernel_rfl) (by kernel_rfl) (by kernel_rfl) rfl (fun _ _ _ h => h) (op_assign rfl) rfl (al_take (i := 16) rfl (by kernel_rfl) (by kernel_rfl) (by kernel_rfl) rfl (fun _ _ _ h => h) (op_assign rfl) rfl (al_take (i := 17) rfl (by kernel_rfl) (by kernel_rfl) (by kernel_rfl) rfl (fun _ _ _ h => h) (op_assign rfl) rfl ?_))
       exact K16 _ _ _ _ (by kernel_rfl) (by exact ⟨r, b12, Gp, oc5, ot5, ov5, cc5, ct5, cv5, rfl, hlp, hMp, hC5, hT5, hV5, hS⟩) ((Sub.cons rfl (Sub.cons rfl (Sub.cons rfl (Sub.cons rfl (Sub.cons rfl (Sub.cons rfl (Sub.cons rfl (Sub.cons rfl Sub.nil)))))))))
     ·
      have hTo := hT
      clear hS hT
      rintro e w ⟨r, b12, Gp, oc5, ot5, ov5, cc5, ct5, cv5, rfl, hlp, hMp, hC5, hT5, hV5, hS⟩
      have hT := hTo.back hS (by first | exact Le.refl _ | assumption) (fun x hx => by try simp only [bkA, bkB, bkC, bkD, bkE] at hx; (rcases hx with rfl | rfl | rfl) <;> simp)
      clear hTo
      refine al_done (by kernel_rfl) (pq_then (cw_seq (cw_region (ol_load rfl (op_loadN agg_28 rfl (by rfl) (fun w hw k u hk => (hw.bcell (i := 0) rfl).trans hk)) hS (ol_pure rfl (op_fieldAddr fld_31_0 rfl) ?_)))))
      refine ol_step0  (op_storeBN (o := 0) (j := 3) hS sz_28 rfl rfl rfl rfl (by first | decide | simp) (by simp [Value.oneCell'])) ?_
      clear hS
      rintro _ w hS; (try simp only [List.nil_append, List.cons_append, List.set, List.take_succ_cons, List.take_zero, List.drop_succ_cons, List.drop_zero, List.drop_nil, List.append_nil] at hS)
      refine ol_nil (pq_then (cw_seq (cw_region (ol_pure rfl (op_move rfl) (ol_pure rfl (op_assign rfl) (ol_nil (pq_then ?_)))))))
      refine cw_region (ol_pure rfl (op_fieldAddr fld_31_1 rfl) (ol_load rfl (op_load1 one_26 rfl (fun w hw => (hw.bcell (i := 3) rfl).trans rfl)) hS (ol_pure rfl (op_move rfl) ?_)))
      refine ol_step rfl (op_buildSlice (el := 3) (is := [0]) (xs := [.tmp 119]) (sz := 1) (cs := [.int .i64 r.1]) hS rfl rfl (fun w => by kernel_rfl) rfl (by decide)) ?_
      clear hS
      rintro _ w ⟨s120, rfl, hS⟩
      refine ol_step rfl (op_append (j := 3) hS sl_26 el_3 rfl rfl rfl rfl rfl rfl (by decide) (hS.news (j := 0) rfl) (by simp [Value.oneCell']) (by omega) (by unfold maxLen; omega)) ?_
      clear hS
      rintro _ w ⟨oa2, c_oa2, rfl, hS⟩; (try simp only [List.nil_append, List.cons_append, List.set] at hS); replace hS := SS.drop [] hS; (try simp only [List.nil_append, List.cons_append] at hS)
      refine ol_pure rfl (op_fieldAddr fld_31_1 rfl) ?_
      refine ol_step0  (op_storeB (j := 3) (k := 3) hS sz_26 rfl rfl rfl rfl (by simp)) ?_
      clear hS
      rintro _ w hS; (try simp only [List.nil_append, List.cons_append, List.set] at hS)
      refine ol_nil (pq_in_normal (pq_then (cw_region (ol_pure rfl (op_move rfl) (ol_pure rfl (op_add rfl rfl (by omega) (by omega)) (ol_pure rfl (op_assign rfl) (ol_nil ?_)))))))
      refine pq_loop _ _ (by exact ⟨k + 1, Gp, _, tr, _, _, ms, us, oc5, ot5, oa2, oM, ov5, cc5, ct5, c_oa2, cM, cv5, rfl, by omega, by omega, rfl, hlk.trans hlp, hMp, hC5, hT5, hV5, hus.mono EMk.mono hlp, by simpa using SS.drop [] (SS.drop [] hS)⟩) ((Sub.cons rfl (Sub.cons rfl (Sub.cons rfl (Sub.cons rfl (Sub.cons rfl Sub.nil)))))) (by omega)
  ·
   try simp only [dqT, dqF, dq1, dq2, dq3, dq4, dq5] at h26
   refine cw_exit (pq_exit (pq_exit (pq_in_exit (pq_then (cw_seq ?_)))))
   obtain ⟨Ga, hla, hSa, hRA⟩ := SS.give' ats [] EInt.mono hS (by decide) ((Rows.ints (fun x hx => by
     have := hMd.at_ x hx
     have := hMd.few
     omega)).mono EInt.mono (fun b o hb => by cases hb)) rfl
   obtain ⟨Gb, hlb, hSb, hRM⟩ := SS.give' ms [_] EMk.mono hSa (by decide) (hus.mono EMk.mono hla) rfl
   clear hS hSa
   have hS := hSb
   clear hSb
   simp only [List.nil_append, List.cons_append] at hS
   have hlab := hla.trans hlb
   refine cw_region (ol_load rfl (op_loadN agg_31 rfl (by rfl) (fun w hw k u hk => (hw.bcell (i := 0) rfl).trans hk)) hS ?_)
   refine ol_step0  (op_storeN (j := 1) hS sz_31 rfl rfl rfl rfl rfl (by simp [Value.oneCell'])) ?_
   clear hS
   rintro _ w hS; (try simp only [List.nil_append, List.cons_append, List.set] at hS)
   refine ol_nil (pq_then (cw_ret ?_))
   refine retN rfl agg_31 rfl (by rfl) (fun k u hk => (hS.bcell (i := 1) rfl).trans hk) ?_
   exact hS.rt _ ⟨cs, tr, ats, ms, vars, ⟨_, _, _, _, _, _, _, _, rfl, hC.mono ECell.mono hlab, hTq.mono EInt.mono hlab, hRA.mono EInt.mono hlb, hRM⟩, by have := MadeI.up hMd (20 - k); rwa [show k + (20 - k) = 20 from by omega] at this⟩
 ·
  try simp only [dqT, dqF, dq1, dq2, dq3, dq4, dq5] at h23
  refine ol_guard_no rfl rfl rfl rfl (ol_guard_no rfl rfl rfl rfl (ol_pure rfl (op_pick_f rfl rfl) (ol_nil (pq_then (cw_cond_f rfl (cw_exit (pq_exit ?_)))))))
  refine pq_exit (pq_in_exit (pq_then (cw_seq ?_)))
  obtain ⟨Ga, hla, hSa, hRA⟩ := SS.give' ats [] EInt.mono hS (by decide) ((Rows.ints (fun x hx => by
    have := hMd.at_ x hx
    have := hMd.few
    omega)).mono EInt.mono (fun b o hb => by cases hb)) rfl
  obtain ⟨Gb, hlb, hSb, hRM⟩ := SS.give' ms [_] EMk.mono hSa (by decide) (hus.mono EMk.mono hla) rfl
  clear hS hSa
  have hS := hSb
  clear hSb
  simp only [List.nil_append, List.cons_append] at hS
  have hlab := hla.trans hlb
  refine cw_region (ol_load rfl (op_loadN agg_31 rfl (by rfl) (fun w hw k u hk => (hw.bcell (i := 0) rfl).trans hk)) hS ?_)
  refine ol_step0  (op_storeN (j := 1) hS sz_31 rfl rfl rfl rfl rfl (by simp [Value.oneCell'])) ?_
  clear hS
  rintro _ w hS; (try simp only [List.nil_append, List.cons_append, List.set] at hS)
  refine ol_nil (pq_then (cw_ret ?_))
  refine retN rfl agg_31 rfl (by rfl) (fun k u hk => (hS.bcell (i := 1) rfl).trans hk) ?_
  exact hS.rt _ ⟨cs, tr, ats, ms, vars, ⟨_, _, _, _, _, _, _, _, rfl, hC.mono ECell.mono hlab, hTq.mono EInt.mono hlab, hRA.mono EInt.mono hlb, hRM⟩, by have := MadeI.up hMd (20 - k); rwa [show k + (20 - k) = 20 from by omega] at this⟩
end Go.Proofs.Ytnmkffkalnkbbaa.K
