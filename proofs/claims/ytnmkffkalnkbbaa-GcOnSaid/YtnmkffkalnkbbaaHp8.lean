/-
  Heaps: a term whose first cell is a Fun is put.
  No condition but the premises that each theorem names.
-/
import Derived.Test.YtnmkffkalnkbbaaHp7
import Derived.Test.YtnmkffkalnkbbaaHp6
import Derived.Test.YtnmkffkalnkbbaaPhg
namespace Go.Proofs.Ytnmkffkalnkbbaa.K
open Go Go.RowKit
set_option linter.unusedVariables false
set_option linter.unusedSimpArgs false

open Pl
/-- The first cell of a block, as a row of one. -/
theorem SS.part {G0 G : GH} {w0 w : World} {M : List Ent} (pre : List Ent) {b : Nat} {T : TypeId} {v : Value} {vs : List Value} (h : SS G0 w0 G (pre ++ .blk b T (v :: vs) :: M) w) : SS G0 w0 G [.row (some ⟨b, 0, none⟩) 1 1 T 1 [v]] w := by
  have hx : Ent.blk b T (v :: vs) ∈ pre ++ Ent.blk b T (v :: vs) :: M := by simp
  have hs : w.heap[b]? = some (.cells (v :: vs).toArray T (0, 0)) := h.own _ hx
  refine ⟨h.below, h.le, h.old, h.hold, fun x hxm => ?_, fun i j x y c hi hj _ _ => ?_, fun x hxm c hc => ?_⟩
  · obtain rfl : x = _ := by simpa using hxm
    refine ⟨rfl, Nat.le_refl _, by decide, .inr ⟨b, 0, _, rfl, hs, by simp, fun i u hu => ?_⟩⟩
    cases i with
    | zero => simpa using hu
    | succ i => simp at hu
  · have h1 := (List.getElem?_eq_some_iff.1 hi).1
    have h2 := (List.getElem?_eq_some_iff.1 hj).1
    simp at h1 h2
    omega
  · obtain rfl : x = _ := by simpa using hxm
    have : b = c := by simpa [Ent.fp] using hc
    subst this
    exact h.new _ hx b rfl
theorem setN_at {cs : List Cell} {i : Nat} (h : i < cs.length) (n : Int) : setN cs i n = cs.set i ⟨cs[i].kind, cs[i].name, n⟩ := by simp [setN, h]
def FunC (k : Nat) : Prop := ∀ {G0 G : GH} {w0 w : World} {M : List Ent} {b : Nat} {st : Stt} {oC : Option Addr} {cC : Nat} {oA : Option Addr} {cA : Nat} (_ : SS G0 w0 G (MkS b st oC cC oA cA ++ M) w) {oa : Option Addr} {ca : Nat} (t : List Cell) (_ : RSl 3 ECell G (.slice oa t.length ca) t) (_ : isT t) (_ : (headC t).kind = 3) (_ : t.length ≤ k) (_ : t.length ≤ 500) (_ : st.2.length ≤ 1000) (_ : st.1.length + 2000 * k ≤ 2000000),
  Calls Try.prog 58 #[.pointer (some ⟨b, 0, none⟩), .slice oa t.length ca] w (fun en w' => ∃ v, en = .returned v ∧ v = .int .i64 (st.1.length : Nat) ∧ ∃ G' oC' cC' oA' cA', Le G G' ∧ SS G0 w0 G' (MkS b (funI k t st) oC' cC' oA' cA' ++ M) w')

set_option maxRecDepth 100000 in
set_option maxHeartbeats 4000000 in

theorem R08_maker_fun_step_c (k : Nat) (ih : FunC k) {G0 G : GH} {w0 w : World} {M : List Ent} {b : Nat} {st : Stt} {oC : Option Addr} {cC : Nat} {oA : Option Addr} {cA : Nat} (hS : SS G0 w0 G (MkS b st oC cC oA cA ++ M) w) {oa : Option Addr} {ca : Nat} (t : List Cell) (h1 : RSl 3 ECell G (.slice oa t.length ca) t) (hT0 : isT t) (h3 : (headC t).kind = 3) (hk : t.length ≤ k + 1) (hn : t.length ≤ 500) (ha : st.2.length ≤ 1000) (hB : st.1.length + 2000 * (k + 1) ≤ 2000000) :
   Calls Try.prog 58 #[.pointer (some ⟨b, 0, none⟩), .slice oa t.length ca] w (fun en w' => ∃ v, en = .returned v ∧ v = .int .i64 (st.1.length : Nat) ∧ ∃ G' oC' cC' oA' cA', Le G G' ∧ SS G0 w0 G' (MkS b (funI (k + 1) t st) oC' cC' oA' cA' ++ M) w') := by
 have ht0 := hT0.pos
 obtain ⟨hoa, hb0, hc0⟩ := h1.cellAt ht0
 have hhd : headC t = t[0] := by
   cases t with
   | nil => simp at ht0
   | cons c t => rfl
 rw [← hhd] at hb0 hc0
 obtain ⟨p1, p2, p3⟩ := partsI_ok hT0 h3
 have hpl : (partsI t).length ≤ 6 := by
   have := hT0.cellB _ hT0.head
   unfold cellB at this
   rw [if_neg (by omega), if_neg (by omega), if_pos h3] at this
   simp only [Bool.and_eq_true, decide_eq_true_eq] at this
   omega
 refine enter Try.func58 rfl (N := 93) rfl (Nat.le_of_ble_eq_true rfl) ?_
 unfold MkS at hS
 simp only [List.cons_append, List.nil_append] at hS
 refine cw_seq (cw_region (ol_pure rfl (op_assign rfl) (ol_nil (pq_then (cw_seq ?_)))))
 refine al_start' hS (hS.take 1) (by kernel_rfl) rfl (fun w hS hT => ?_)
 refine al_take (i := 0) rfl (by kernel_rfl) (by kernel_rfl) (by kernel_rfl) rfl (fun _ _ _ h => h) (op_move rfl) rfl (al_take (i := 1) rfl (by kernel_rfl) (by kernel_rfl) (by kernel_rfl) rfl (fun _ _ _ h => h) (op_nilCheck rfl) rfl (al_take (i := 2) rfl (by kernel_rfl) (by kernel_rfl) (by kernel_rfl) rfl (fun _ _ _ h => h) (op_fieldAddr fld_96_0 rfl) rfl (al_load (i := 3) rfl (by kernel_rfl) (by kernel_rfl) (by kernel_rfl) rfl (fun _ _ _ h => h) (by exact op_load1 one_25 rfl (fun w hw => (hw.bcell (i := 0) rfl).trans rfl)) rfl hT (al_take (i := 4) rfl (by kernel_rfl) (by kernel_rfl) (by kernel_rfl) rfl (fun _ _ _ h => h) (op_len sl_25 rfl rfl) rfl (al_take (i := 5) rfl (by kernel_rfl) (by kernel_rfl) (by kernel_rfl) rfl (fun _ _ _ h => h) (op_move rfl) rfl ?_)))))
 refine al_step (i := 6) rfl (by kernel_rfl) rfl (op_call_rt hS cf_65 rfl (fun _ => .inr rfl) (fun _ _ _ hl h => h.mono EAtom.mono hl) (R01_Parts_c _ _ hS.hold _ t h1 (by omega))) ?_
 clear hS
 rintro v16 w ⟨G16, hl16, hR16, hS⟩
 obtain ⟨oP, cP, rfl, _, _⟩ := hR16.elim
 have hT := hT.back hS (by first | exact Le.refl _ | assumption) (fun x hx => by try simp only [bkA, bkB, bkC, bkD, bkE] at hx; (rcases hx with rfl) <;> simp)
 refine ⟨fun _ _ => hT, ?_⟩
 refine al_take (i := 7) rfl (by kernel_rfl) (by kernel_rfl) (by kernel_rfl) rfl (fun _ _ _ h => h) (op_assign rfl) rfl (al_take (i := 8) rfl (by kernel_rfl) (by kernel_rfl) (by kernel_rfl) rfl (fun _ _ _ h => h) (op_assign rfl) rfl (al_done (by kernel_rfl) (pq_then (cw_seq ?_))))
 refine al_start' hS (hS.take 1) (by kernel_rfl) rfl (fun w hS hT => ?_)
 refine al_take (i := 0) rfl (by kernel_rfl) (by kernel_rfl) (by kernel_rfl) rfl (fun _ _ _ h => h) (op_move rfl) rfl (al_take (i := 1) rfl (by kernel_rfl) (by kernel_rfl) (by kernel_rfl) rfl (fun _ _ _ h => h) (op_move rfl) rfl (al_take (i := 2) rfl (by kernel_rfl) (by kernel_rfl) (by kernel_rfl) rfl (fun _ _ _ h => h) (op_nilCheck rfl) rfl (al_take (i := 3) rfl (by kernel_rfl) (by kernel_rfl) (by kernel_rfl) rfl (fun _ _ _ h => h) (op_fieldAddr fld_96_0 rfl) rfl (al_load (i := 4) rfl (by kernel_rfl) (by kernel_rfl) (by kernel_rfl) rfl (fun _ _ _ h => h) (by exact op_load1 one_25 rfl (fun w hw => (hw.bcell (i := 0) rfl).trans rfl)) rfl hT (al_take (i := 5) rfl (by kernel_rfl) (by kernel_rfl) (by kernel_rfl) rfl (fun _ _ _ h => h) (op_move rfl) rfl (al_take (i := 6) rfl (by kernel_rfl) (by kernel_rfl) (by kernel_rfl) rfl (fun _ _ _ h => h) (op_indexN (i := 0) sl_59 rfl rfl ht0 hoa) rfl (al_take (i := 7) rfl (by kernel_rfl) (by kernel_rfl) (by kernel_rfl) rfl (fun _ _ _ h => h) (op_fieldAddr fld_58_1 rfl) rfl ?_)))))))
 refine al_load (i := 8) rfl (by kernel_rfl) (by kernel_rfl) (by kernel_rfl) rfl (fun _ _ _ h => h) (by exact op_load1 one_9 rfl (fun w hw => hw.gcell (hl16.cell (hc0 1 _ rfl)))) rfl hT (al_take (i := 9) rfl (by kernel_rfl) (by kernel_rfl) (by kernel_rfl) rfl (fun _ _ _ h => h) (op_move rfl) rfl (al_take (i := 10) rfl (by kernel_rfl) (by kernel_rfl) (by kernel_rfl) rfl (fun _ _ _ h => h) (op_indexN (i := 0) sl_59 rfl rfl ht0 hoa) rfl (al_take (i := 11) rfl (by kernel_rfl) (by kernel_rfl) (by kernel_rfl) rfl (fun _ _ _ h => h) (op_fieldAddr fld_58_2 rfl) rfl (al_load (i := 12) rfl (by kernel_rfl) (by kernel_rfl) (by kernel_rfl) rfl (fun _ _ _ h => h) (by exact op_load1 one_3 rfl (fun w hw => hw.gcell (hl16.cell (hc0 2 _ rfl)))) rfl hT (al_take (i := 13) rfl (by kernel_rfl) (by kernel_rfl) (by kernel_rfl) rfl (fun _ _ _ h => h) (op_build (is := [0, 1, 2]) (xs := [.const (.int .i64 (4)), .tmp 25, .tmp 29]) (v := .agg #[.int .i64 4, .string (headC t).name, .int .i64 (headC t).n]) rfl rfl (fun w => by kernel_rfl)) rfl ?_)))))
 refine al_step (i := 14) rfl (by kernel_rfl) rfl (op_buildSlice (el := 49) (is := [0]) (xs := [.tmp 30]) (sz := 3) (cs := cellV (⟨4, (headC t).name, (headC t).n⟩ : Cell)) hS rfl rfl (fun w => by kernel_rfl) rfl (by decide)) ?_
 clear hS
 rintro _ w ⟨s31, rfl, hS⟩
 have hT := hT.back hS (by first | exact Le.refl _ | assumption) (fun x hx => by try simp only [bkA, bkB, bkC, bkD, bkE] at hx; (rcases hx with rfl) <;> simp)
 refine ⟨fun _ _ => hT, ?_⟩
 refine al_step (i := 15) rfl (by kernel_rfl) rfl (op_append (j := 2) hS sl_25 el_49 rfl rfl rfl rfl rfl rfl (by decide) (hS.news (j := 0) rfl) (by simp [cellV, Value.oneCell']) (by omega) (by unfold maxLen; omega)) ?_
 clear hS
 rintro _ w ⟨oq, c_oq, rfl, hS⟩; (try simp only [List.nil_append, List.cons_append, List.set] at hS); replace hS := SS.drop [] hS; (try simp only [List.nil_append, List.cons_append] at hS)
 have hT := hT.back hS (by first | exact Le.refl _ | assumption) (fun x hx => by try simp only [bkA, bkB, bkC, bkD, bkE] at hx; (rcases hx with rfl) <;> simp)
 refine ⟨fun _ _ => hT, ?_⟩
 refine al_take (i := 16) rfl (by kernel_rfl) (by kernel_rfl) (by kernel_rfl) rfl (fun _ _ _ h => h) (op_nilCheck rfl) rfl (al_take (i := 17) rfl (by kernel_rfl) (by kernel_rfl) (by kernel_rfl) rfl (fun _ _ _ h => h) (op_fieldAddr fld_96_0 rfl) rfl ?_)
 refine al_step0 (i := 18) rfl (by kernel_rfl) (op_storeB (j := 0) (k := 0) hS sz_25 rfl rfl rfl rfl (by simp)) ?_
 clear hS
 rintro _ w hS; (try simp only [List.nil_append, List.cons_append, List.set] at hS)
 refine ⟨no_need (by kernel_rfl), ?_⟩
 refine al_done (by kernel_rfl) (pq_then (cw_seq (cw_seq ?_)))
 have hS2 : SS G0 w0 G16 (MkS b (st.1 ++ [(⟨4, (headC t).name, (headC t).n⟩ : Cell)], st.2) oq c_oq oA cA ++ M) w := by
   unfold MkS
   simpa [cellsV] using hS
 refine cw_region (ol_pure rfl (op_assign rfl) (ol_nil (pq_then (cw_block ?_))))
 refine cw_loop (fun e w n => ∃ (i : Nat) (oC : Option Addr) (cC : Nat) (oA : Option Addr) (cA : Nat), e = [(0, .pointer (some ⟨b, 0, none⟩)), (5, .int .i64 (st.1.length : Nat)), (6, .slice oP (partsI t).length cP), (7, .int .i64 (i : Nat))] ∧ i ≤ (partsI t).length ∧ n = (partsI t).length - i ∧ SS G0 w0 G16 (MkS b (((partsI t).take i).foldl addI (st.1 ++ [(⟨4, (headC t).name, (headC t).n⟩ : Cell)], st.2)) oC cC oA cA ++ M) w) _ _ (by exact ⟨0, oq, c_oq, oA, cA, rfl, Nat.zero_le _, rfl, hS2⟩) ((Sub.cons rfl (Sub.cons rfl (Sub.cons rfl (Sub.cons rfl Sub.nil))))) ?_
 clear hS
 rintro e w n ⟨i, oC, cC, oA, cA, rfl, hi, rfl, hS⟩
 unfold MkS at hS
 simp only [List.cons_append, List.nil_append] at hS
 refine cw_seq (cw_seq (cw_region (ol_pure rfl (op_move rfl) (ol_pure rfl (op_move rfl) (ol_pure rfl (op_len sl_104 rfl rfl) (ol_pure rfl (op_lss rfl rfl) (ol_nil ?_)))))))
 refine pq_then ?_
 refine cw_cond rfl (fun h38 => ?_) (fun h38 => ?_)
 ·
  try simp only [dqT, dqF, dq1, dq2, dq3, dq4, dq5] at h38
  have hil : i < (partsI t).length := by omega
  obtain ⟨hoP, ob, d, hcp, hRp, _, _⟩ := hR16.slAt hil
  have hpo := (p2 _ (List.getElem_mem hil)).1
  have hfs := foldl_succ addI (st.1 ++ [(⟨4, (headC t).name, (headC t).n⟩ : Cell)], st.2) hil
  have hal := addAll_len ((partsI t).take i) (st.1 ++ [(⟨4, (headC t).name, (headC t).n⟩ : Cell)], st.2) ha (fun p hp => (p2 p (List.mem_of_mem_take hp)).1.headOk)
  simp only [List.length_append, List.length_cons, List.length_nil, List.length_take] at hal
  generalize hXe : (((partsI t).take i).foldl addI (st.1 ++ [(⟨4, (headC t).name, (headC t).n⟩ : Cell)], st.2)) = X at hS hfs hal
  refine cw_skip (pq_then (cw_seq (cw_block ?_)))
  refine al_start' hS (SS.part [] hS) (by kernel_rfl) rfl (fun w hS hT => ?_)
  refine al_take (i := 0) rfl (by kernel_rfl) (by kernel_rfl) (by kernel_rfl) rfl (fun _ _ _ h => h) (op_move rfl) rfl (al_take (i := 1) rfl (by kernel_rfl) (by kernel_rfl) (by kernel_rfl) rfl (fun _ _ _ h => h) (op_move rfl) rfl (al_take (i := 2) rfl (by kernel_rfl) (by kernel_rfl) (by kernel_rfl) rfl (fun _ _ _ h => h) (op_nilCheck rfl) rfl (al_take (i := 3) rfl (by kernel_rfl) (by kernel_rfl) (by kernel_rfl) rfl (fun _ _ _ h => h) (op_fieldAddr fld_96_0 rfl) rfl (al_load (i := 4) rfl (by kernel_rfl) (by kernel_rfl) (by kernel_rfl) rfl (fun _ _ _ h => h) (by exact op_load1 one_25 rfl (fun w hw => hw.rcell (i := 0) (k := 0) rfl rfl)) rfl hT (al_take (i := 5) rfl (by kernel_rfl) (by kernel_rfl) (by kernel_rfl) rfl (fun _ _ _ h => h) (op_move rfl) rfl (al_take (i := 6) rfl (by kernel_rfl) (by kernel_rfl) (by kernel_rfl) rfl (fun _ _ _ h => h) (op_move rfl) rfl (al_take (i := 7) rfl (by kernel_rfl) (by kernel_rfl) (by kernel_rfl) rfl (fun _ _ _ h => h) (op_move rfl) rfl ?_)))))))
  refine al_take (i := 8) rfl (by kernel_rfl) (by kernel_rfl) (by kernel_rfl) rfl (fun _ _ _ h => h) (op_indexN (n := (partsI t).length) sl_104 rfl rfl hil hoP) rfl (al_load (i := 9) rfl (by kernel_rfl) (by kernel_rfl) (by kernel_rfl) rfl (fun _ _ _ h => h) (by exact op_load1 one_59 rfl (fun w hw => hw.gcell hcp)) rfl hT (al_take (i := 10) rfl (by kernel_rfl) (by kernel_rfl) (by kernel_rfl) rfl (fun _ _ _ h => h) (op_move rfl) rfl (al_take (i := 11) rfl (by kernel_rfl) (by kernel_rfl) (by kernel_rfl) rfl (fun _ _ _ h => h) (op_nilCheck rfl) rfl (al_take (i := 12) rfl (by kernel_rfl) (by kernel_rfl) (by kernel_rfl) rfl (fun _ _ _ h => h) (op_fieldAddr fld_96_0 rfl) rfl (al_load (i := 13) rfl (by kernel_rfl) (by kernel_rfl) (by kernel_rfl) rfl (fun _ _ _ h => h) (by exact op_load1 one_25 rfl (fun w hw => hw.rcell (i := 0) (k := 0) rfl rfl)) rfl hT (al_take (i := 14) rfl (by kernel_rfl) (by kernel_rfl) (by kernel_rfl) rfl (fun _ _ _ h => h) (op_len sl_25 rfl rfl) rfl ?_))))))
  have hS2 : SS G0 w0 G16 (MkS b X oC cC oA cA ++ M) w := hS
  refine al_step (i := 15) rfl (by kernel_rfl) rfl (op_call cf_60 rfl (R08_maker_one_c hS2 (partsI t)[i] (fun hh => by have := hpo.pos; rw [hh] at this; simp at this) hRp X.1.length hpo.headOk (by omega))) ?_
  clear hS
  rintro _ w ⟨rfl, oA', cA', hS⟩
  unfold MkS at hS
  simp only [List.cons_append, List.nil_append] at hS
  have hT := hT.back (SS.part [] hS) (Le.refl _) (fun x hx => hx)
  refine ⟨fun _ _ => hT, ?_⟩
  refine al_step (i := 16) rfl (by kernel_rfl) rfl (op_buildSlice (el := 49) (is := [0]) (xs := [.tmp 56]) (sz := 3) (cs := cellV (oneI X.2 (headC (partsI t)[i]) X.1.length).1) hS rfl rfl (fun w => by kernel_rfl) rfl (by decide)) ?_
  clear hS
  rintro _ w ⟨s57, rfl, hS⟩
  have hT := hT.back (SS.part [_] hS) (Le.refl _) (fun x hx => hx)
  refine ⟨fun _ _ => hT, ?_⟩
  refine al_step (i := 17) rfl (by kernel_rfl) rfl (op_append (j := 2) hS sl_25 el_49 rfl rfl rfl rfl rfl rfl (by decide) (hS.news (j := 0) rfl) (by simp [cellV, Value.oneCell']) (by omega) (by unfold maxLen; omega)) ?_
  clear hS
  rintro _ w ⟨oq, c_oq, rfl, hS⟩; (try simp only [List.nil_append, List.cons_append, List.set] at hS); replace hS := SS.drop [] hS; (try simp only [List.nil_append, List.cons_append] at hS)
  have hT := hT.back (SS.part [] hS) (Le.refl _) (fun x hx => hx)
  refine ⟨fun _ _ => hT, ?_⟩
  refine al_take (i := 18) rfl (by kernel_rfl) (by kernel_rfl) (by kernel_rfl) rfl (fun _ _ _ h => h) (op_nilCheck rfl) rfl (al_take (i := 19) rfl (by kernel_rfl) (by kernel_rfl) (by kernel_rfl) rfl (fun _ _ _ h => h) (op_fieldAddr fld_96_0 rfl) rfl ?_)
  refine al_step0 (i := 20) rfl (by kernel_rfl) (op_storeB (j := 0) (k := 0) hS sz_25 rfl rfl rfl rfl (by simp)) ?_
  clear hS
  rintro _ w hS; (try simp only [List.nil_append, List.cons_append, List.set] at hS)
  refine ⟨no_need (by kernel_rfl), ?_⟩
  refine al_done (by kernel_rfl) (pq_in_normal (pq_then (cw_region (ol_pure rfl (op_move rfl) (ol_pure rfl (op_add rfl rfl (by omega) (by omega)) (ol_pure rfl (op_assign rfl) (ol_nil ?_)))))))
  refine pq_loop _ _ (by exact ⟨i + 1, oq, c_oq, oA', cA', rfl, by omega, rfl, by rw [hfs]; unfold MkS addI; simpa [cellsV] using hS⟩) ((Sub.cons rfl (Sub.cons rfl (Sub.cons rfl (Sub.cons rfl Sub.nil))))) (by omega)
 ·
  try simp only [dqT, dqF, dq1, dq2, dq3, dq4, dq5] at h38
  have hie : i = (partsI t).length := by omega
  rw [hie, List.take_length] at hS
  have hS2 : SS G0 w0 G16 (MkS b (topI t st) oC cC oA cA ++ M) w := hS
  have hcx := Le.refl G16
  refine cw_exit (pq_exit (pq_exit (pq_in_exit (pq_then (cw_seq (cw_seq (cw_region ?_)))))))
  refine ol_pure rfl (op_assign rfl) (ol_nil (pq_then (cw_block ?_)))
  refine cw_loop (fun e w n => ∃ (Gc : GH) (i : Nat) (oC : Option Addr) (cC : Nat) (oA : Option Addr) (cA : Nat), e = [(0, .pointer (some ⟨b, 0, none⟩)), (5, .int .i64 (st.1.length : Nat)), (6, .slice oP (partsI t).length cP), (8, .int .i64 (i : Nat))] ∧ Le G16 Gc ∧ i ≤ (partsI t).length ∧ n = (partsI t).length - i ∧ SS G0 w0 Gc (MkS b (fillN (funI k) st.1.length (partsI t) i (topI t st)) oC cC oA cA ++ M) w) _ _ (by exact ⟨G16, 0, oC, cC, oA, cA, rfl, hcx, Nat.zero_le _, rfl, hS2⟩) ((Sub.cons rfl (Sub.cons rfl (Sub.cons rfl (Sub.cons rfl Sub.nil))))) ?_
  clear hS
  rintro e w n ⟨Gc, i, oC, cC, oA, cA, rfl, hcx, hi, rfl, hS⟩
  refine cw_seq (cw_seq (cw_region (ol_pure rfl (op_move rfl) (ol_pure rfl (op_move rfl) (ol_pure rfl (op_len sl_104 rfl rfl) (ol_pure rfl (op_lss rfl rfl) (ol_nil ?_)))))))
  refine pq_then ?_
  refine cw_cond rfl (fun h64 => ?_) (fun h64 => ?_)
  ·
   try simp only [dqT, dqF, dq1, dq2, dq3, dq4, dq5] at h64
   have hil : i < (partsI t).length := by omega
   obtain ⟨hoP, ob, d, hcp, hRp, _, _⟩ := (hR16.mono EAtom.mono hcx).slAt hil
   have hpo := (p2 _ (List.getElem_mem hil)).1
   have hp0 := hpo.pos
   obtain ⟨hob, hbp, hcp0⟩ := hRp.cellAt hp0
   have hhp : headC (partsI t)[i] = (partsI t)[i][0] := by
     generalize (partsI t)[i] = p at hp0
     cases p with
     | nil => simp at hp0
     | cons c t => rfl
   rw [← hhp] at hcp0
   have hfl := fillN_fun_len hT0 h3 hk ha (i := i) (by omega)
   have hlm := lenS_mem hil
   have hfst : fillN (funI k) st.1.length (partsI t) (i + 1) (topI t st) = fillS (funI k) st.1.length (partsI t) i (fillN (funI k) st.1.length (partsI t) i (topI t st)) := rfl
   generalize hXe : (fillN (funI k) st.1.length (partsI t) i (topI t st)) = X at hS hfl hfst
   unfold fillS at hfst
   rw [getD_at hil] at hfst
   refine cw_skip (pq_then (cw_seq (cw_block (cw_seq (cw_region (ol_pure rfl (op_move rfl) (ol_pure rfl (op_move rfl) ?_)))))))
   refine ol_pure rfl (op_indexN (n := (partsI t).length) sl_104 rfl rfl hil hoP) (ol_load rfl (op_load1 one_59 rfl (fun w hw => hw.gcell hcp)) hS (ol_pure rfl (op_indexN (i := 0) sl_59 rfl rfl hp0 hob) (ol_pure rfl (op_fieldAddr fld_58_0 rfl) (ol_load rfl (op_load1 one_3 rfl (fun w hw => hw.gcell (hcp0 0 _ rfl))) hS (ol_pure rfl (op_eql rfl rfl) (ol_nil (pq_then ?_)))))))
   refine cw_cond rfl (fun h74 => ?_) (fun h74 => ?_)
   ·
    try simp only [dqT, dqF, dq1, dq2, dq3, dq4, dq5] at h74
    refine cw_seq (cw_region (ol_pure rfl (op_move rfl) (ol_pure rfl (op_move rfl) (ol_pure rfl (op_move rfl) (ol_pure rfl (op_indexN (n := (partsI t).length) sl_104 rfl rfl hil hoP) (ol_load rfl (op_load1 one_59 rfl (fun w hw => hw.gcell hcp)) hS ?_))))))
    refine ol_step rfl (op_call cf_58 rfl (ih hS (partsI t)[i] hRp hpo h74 (by omega) (by omega) hfl.2.2 (by omega))) ?_
    clear hS
    rintro _ w ⟨rfl, G', oC', cC', oA', cA', hle', hS⟩
    rw [if_pos h74] at hfst
    have hsl := funI_len k (partsI t)[i] X hpo h74 (by omega) hfl.2.2
    generalize hYe : funI k (partsI t)[i] X = Y at hS hfst hsl
    unfold MkS at hS
    simp only [List.cons_append, List.nil_append] at hS
    have hql : st.1.length + 1 + i < Y.1.length := by omega
    have hoq := (hS.news (j := 1) rfl ((st.1.length + 1 + i) * 3) _ (List.getElem?_eq_getElem (by rw [cellsV_len]; omega))).1
    refine ol_pure rfl (op_assign rfl) (ol_nil (pq_then ?_))
    
    refine cw_region (ol_pure rfl (op_move rfl) (ol_pure rfl (op_nilCheck rfl) (ol_pure rfl (op_fieldAddr fld_96_0 rfl) (ol_load rfl (op_load1 one_25 rfl (fun w hw => (hw.bcell (i := 0) rfl).trans rfl)) hS (ol_pure rfl (op_move rfl) (ol_pure rfl (op_val (v' := .int .i64 ((st.1.length + 1 : Nat) : Int)) (op_add rfl rfl (by omega) (by omega)) (congrArg (Value.int .i64) (by omega))) (ol_pure rfl (op_move rfl) ?_)))))))
    refine ol_pure rfl (op_val (v' := .int .i64 ((st.1.length + 1 + i : Nat) : Int)) (op_add rfl rfl (by omega) (by omega)) (congrArg (Value.int .i64) (by omega))) (ol_pure rfl (op_move rfl) (ol_pure rfl (op_indexN (n := Y.1.length) sl_25 rfl rfl hql hoq) (ol_pure rfl (op_fieldAddr fld_49_2 rfl) ?_)))
    refine ol_step0  (op_storeRF (j := 1) (i := (st.1.length + 1 + i) * 3) (f := 2) hS sz_3 rfl rfl rfl rfl (by rw [cellsV_len]; omega)) ?_
    clear hS
    rintro _ w hS; (try simp only [List.nil_append, List.cons_append, List.set] at hS)
    rw [cellsV_setN hql, ← setN_at hql] at hS
    refine ol_nil (pq_in_normal (pq_then (cw_region (ol_pure rfl (op_move rfl) (ol_pure rfl (op_add rfl rfl (by omega) (by omega)) (ol_pure rfl (op_assign rfl) (ol_nil ?_)))))))
    refine pq_loop _ _ (by exact ⟨G', i + 1, oC', cC', oA', cA', rfl, hcx.trans hle', by omega, rfl, by rw [hfst]; unfold MkS; simp only [setN_len]; exact hS⟩) ((Sub.cons rfl (Sub.cons rfl (Sub.cons rfl (Sub.cons rfl Sub.nil))))) (by omega)
   ·
    try simp only [dqT, dqF, dq1, dq2, dq3, dq4, dq5] at h74
    refine cw_skip (pq_in_normal (pq_then (cw_region (ol_pure rfl (op_move rfl) (ol_pure rfl (op_add rfl rfl (by omega) (by omega)) (ol_pure rfl (op_assign rfl) (ol_nil ?_)))))))
    refine pq_loop _ _ (by exact ⟨Gc, i + 1, oC, cC, oA, cA, rfl, hcx, by omega, rfl, by rw [hfst, if_neg h74]; exact hS⟩) ((Sub.cons rfl (Sub.cons rfl (Sub.cons rfl (Sub.cons rfl Sub.nil))))) (by omega)
  ·
   try simp only [dqT, dqF, dq1, dq2, dq3, dq4, dq5] at h64
   refine cw_exit (pq_exit (pq_exit (pq_in_exit (pq_then (cw_seq (cw_region (ol_pure rfl (op_move rfl) ?_)))))))
   refine ol_pure rfl (op_assign rfl) (ol_nil (pq_then (cw_ret (ret1 rfl rfl ?_))))
   have hie : i = (partsI t).length := by omega
   rw [hie] at hS
   exact ⟨_, rfl, rfl, Gc, oC, cC, oA, cA, hl16.trans hcx, hS⟩
theorem funC : ∀ k, FunC k
  | 0 => fun _ {_} {_} t _ hT _ hk _ _ _ => absurd hT.pos (by omega)
  | k + 1 => fun hS {_} {_} t h1 hT h3 hk hn ha hB => R08_maker_fun_step_c k (funC k) hS t h1 hT h3 hk hn ha hB

end Go.Proofs.Ytnmkffkalnkbbaa.K
