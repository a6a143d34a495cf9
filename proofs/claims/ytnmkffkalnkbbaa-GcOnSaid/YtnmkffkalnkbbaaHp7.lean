/-
  Heaps: terms that are put; their parts.
  No condition but the premises that each theorem names.
-/
import Derived.Test.YtnmkffkalnkbbaaHp4
import Derived.Test.YtnmkffkalnkbbaaPhf
namespace Go.Proofs.Ytnmkffkalnkbbaa.K
open Go Go.RowKit
set_option linter.unusedVariables false
set_option linter.unusedSimpArgs false

open Pl
/-- The blocks of a maker: its own, the slots, and where variables stand. -/
def MkS (b : Nat) (st : Stt) (oC : Option Addr) (cC : Nat) (oA : Option Addr) (cA : Nat) : List Ent :=
  [.blk b 96 [.slice oC st.1.length cC, .slice oA st.2.length cA], .row oC st.1.length cC 49 3 (cellsV st.1), .row oA st.2.length cA 3 1 (st.2.map (Value.int .i64))]
theorem endI_part {t : List Cell} {a : Nat} (h : 0 ≤ endI (t.drop a) 1 a) : ∃ e : Nat, endI (t.drop a) 1 a = e ∧ a + 1 ≤ e ∧ e ≤ t.length := by
  obtain ⟨j, h1, h2, h3, _, _⟩ := endI_split (t.drop a) 1 0 a _ (by omega) (by omega) (by omega) rfl h
  simp only [List.length_drop] at h2
  exact ⟨a + j, by omega, by omega, by omega⟩
theorem partsGo_stop {t : List Cell} {k a : Nat} (h : endI (t.drop a) 1 a < 0) : partsGo t (k + 1) a = [] := by rw [partsGo, if_pos h]
theorem partsGo_go {t : List Cell} {k a e : Nat} (h : endI (t.drop a) 1 a = e) : partsGo t (k + 1) a = (t.take e).drop a :: partsGo t k e := by
  rw [partsGo, if_neg (by omega), h]
  rfl

set_option maxRecDepth 100000 in
set_option maxHeartbeats 1000000 in

theorem R01_Parts_c (G : GH) (w0 : World) (hG : Holds G w0) (v : Value) (t : List Cell) (h1 : RSl 3 ECell G v t) (hn : t.length ≤ 1000000) :
   Calls Try.prog 65 #[v] w0 (Rt G w0 (fun G v => RSl 1 EAtom G v (partsI t))) := by
 obtain ⟨oa, ca, rfl, hca, _⟩ := h1.elim
 refine enter Try.func65 rfl (N := 42) rfl (Nat.le_of_ble_eq_true rfl) ?_
 have hS := SS.init hG
 refine cw_seq (cw_region (ol_pure rfl (op_assign rfl) (ol_nil (pq_then (cw_seq (cw_region ?_))))))
 refine ol_step rfl (op_buildSlice (el := 59) (is := []) (xs := []) (sz := 1) (cs := []) hS rfl rfl (fun w => by kernel_rfl) rfl (by decide)) ?_
 clear hS
 rintro _ w ⟨o3, rfl, hS⟩
 refine ol_pure rfl (op_assign rfl) (ol_nil (pq_then (cw_seq (cw_seq (cw_region (ol_pure rfl (op_move rfl) (ol_pure rfl (op_len sl_59 rfl rfl) ?_)))))))
 refine ol_pure rfl (op_eql rfl rfl) (ol_pure rfl (op_move rfl) ?_)
 refine ol_split (fun h11 => ?_) (fun h11 => ?_)
 ·
  try simp only [dqT, dqF, dq1, dq2, dq3, dq4, dq5] at h11
  have ht0 : t = [] := List.eq_nil_of_length_eq_zero (by omega)
  have hpi : partsI t = [] := by unfold partsI; rw [if_pos (.inl ht0)]
  refine ol_guard_no rfl rfl rfl rfl (ol_guard_no rfl rfl rfl rfl (ol_guard_no rfl rfl rfl rfl (ol_guard_no rfl rfl rfl rfl (ol_guard_no rfl rfl rfl rfl (ol_pure rfl (op_pick_t rfl rfl) (ol_nil (pq_then ?_)))))))
  refine cw_cond_t rfl (cw_seq (cw_region (ol_pure rfl (op_move rfl) (ol_pure rfl (op_assign rfl) (ol_nil (pq_then (cw_ret ?_)))))))
  refine pq_ret (ret1 rfl rfl ?_)
  rw [hpi]
  obtain ⟨Ga, hla, hSa, hRT⟩ := SS.give' ([] : List (List Cell)) [] EAtom.mono hS (by decide) (Rows.nil _) rfl
  exact hSa.rt _ hRT
 ·
  try simp only [dqT, dqF, dq1, dq2, dq3, dq4, dq5] at h11
  have ht0 : 0 < t.length := by omega
  obtain ⟨hoa, hb0, hc0⟩ := h1.cellAt ht0
  have hhd : headC t = t[0] := by
    cases t with
    | nil => simp at ht0
    | cons c t => rfl
  have htn : t ≠ [] := fun hh => by rw [hh] at ht0; simp at ht0
  refine ol_guard_pure rfl rfl rfl (op_move rfl) (ol_guard_pure rfl rfl rfl (op_indexN (i := 0) sl_59 rfl rfl (by omega) hoa) (ol_guard_pure rfl rfl rfl (op_fieldAddr fld_58_0 rfl) (ol_guard_load rfl rfl rfl (op_load1 one_3 rfl (fun w hw => hw.gcell (hc0 0 _ rfl))) hS (ol_guard_pure rfl rfl rfl (op_neq rfl rfl) (ol_pure rfl (op_pick_f rfl rfl) (ol_nil (pq_then ?_)))))))
  refine cw_cond rfl (fun h17 => ?_) (fun h17 => ?_)
  ·
   try simp only [dqT, dqF, dq1, dq2, dq3, dq4, dq5] at h17
   have hpi : partsI t = [] := by unfold partsI; rw [if_pos (.inr (by rw [hhd]; exact h17))]
   refine cw_seq (cw_region (ol_pure rfl (op_move rfl) (ol_pure rfl (op_assign rfl) (ol_nil (pq_then (cw_ret (pq_ret ?_)))))))
   refine ret1 rfl rfl ?_
   rw [hpi]
   obtain ⟨Ga, hla, hSa, hRT⟩ := SS.give' ([] : List (List Cell)) [] EAtom.mono hS (by decide) (Rows.nil _) rfl
   exact hSa.rt _ hRT
  ·
   try simp only [dqT, dqF, dq1, dq2, dq3, dq4, dq5] at h17
   have hpi : partsI t = partsGo t t[0].n.toNat 1 := by unfold partsI; rw [if_neg (by rw [hhd]; rintro (hh | hh); exact htn hh; exact hh (by simpa using h17)), hhd]
   refine cw_skip (pq_then (cw_seq (cw_region (ol_pure rfl (op_assign rfl) (ol_nil (pq_then (cw_seq ?_)))))))
   refine cw_seq (cw_region (ol_pure rfl (op_assign rfl) (ol_nil (pq_then (cw_block ?_)))))
   refine cw_loop (fun e w n => ∃ (x4 : Int) (a i : Nat) (L : List (List Cell)) (us : List Value) (o3 : Option Addr) (l3 c3 : Nat), e = [(0, .slice oa t.length ca), (3, .slice o3 l3 c3), (4, .int .i64 x4), (5, .int .i64 (i : Nat))] ∧ x4 = a ∧ l3 = L.length ∧ L.length ≤ i ∧ i ≤ t[0].n.toNat ∧ a ≤ t.length ∧ i < a ∧ partsI t = L ++ partsGo t (t[0].n.toNat - i) a ∧ n = t[0].n.toNat - i ∧ Rows 1 EAtom G us L ∧ SS G w0 G [.row o3 l3 c3 59 1 us] w) _ _ (by exact ⟨1, 1, 0, [], [], o3, 0, _, rfl, rfl, rfl, Nat.le_refl _, Nat.zero_le _, by omega, by omega, hpi, rfl, Rows.nil _, hS⟩) ((Sub.cons rfl (Sub.cons rfl (Sub.cons rfl (Sub.cons rfl Sub.nil))))) ?_
   clear hS
   rintro e w n ⟨x4, a, i, L, us, o3, l3, c3, rfl, rfl, hl3, hLi, hin, ha, hia, hpL, rfl, hus, hS⟩
   refine cw_seq (cw_seq (cw_region (ol_pure rfl (op_move rfl) (ol_pure rfl (op_move rfl) (ol_pure rfl (op_indexN (i := 0) sl_59 rfl rfl (by omega) hoa) (ol_pure rfl (op_fieldAddr fld_58_2 rfl) (ol_load rfl (op_load1 one_3 rfl (fun w hw => hw.gcell (hc0 2 _ rfl))) hS ?_)))))))
   refine ol_pure rfl (op_lss rfl rfl) (ol_nil (pq_then ?_))
   refine cw_cond rfl (fun h24 => ?_) (fun h24 => ?_)
   ·
    try simp only [dqT, dqF, dq1, dq2, dq3, dq4, dq5] at h24
    refine cw_skip (pq_then (cw_seq (cw_block (cw_seq (cw_region (ol_pure rfl (op_move rfl) (ol_pure rfl (op_move rfl) ?_)))))))
    refine ol_step rfl (op_call_sc hS cf_66 rfl (R01_End_c _ _ hS.hold _ t h1 a ha (by omega))) ?_
    clear hS
    rintro _ w ⟨rfl, hS⟩
    refine ol_pure rfl (op_assign rfl) (ol_nil (pq_then (cw_seq (cw_seq (cw_region (ol_pure rfl (op_move rfl) (ol_pure rfl (op_lss rfl rfl) ?_)))))))
    refine ol_nil (pq_then ?_)
    refine cw_cond rfl (fun h31 => ?_) (fun h31 => ?_)
    ·
     try simp only [dqT, dqF, dq1, dq2, dq3, dq4, dq5] at h31
     refine cw_seq (cw_region (ol_pure rfl (op_move rfl) (ol_pure rfl (op_assign rfl) (ol_nil (pq_then (cw_ret (pq_ret ?_)))))))
     refine pq_in_ret (pq_ret (pq_ret (pq_in_ret (pq_ret (ret1 rfl rfl ?_)))))
     have hkk : t[0].n.toNat - i = (t[0].n.toNat - (i + 1)) + 1 := by omega
     rw [hkk, partsGo_stop (by omega), List.append_nil] at hpL
     rw [hpL]
     obtain ⟨Ga, hla, hSa, hRT⟩ := SS.give' L [] EAtom.mono hS (by decide) hus hl3
     exact hSa.rt _ hRT
    ·
     try simp only [dqT, dqF, dq1, dq2, dq3, dq4, dq5] at h31
     obtain ⟨e, he, hae, het⟩ := endI_part (t := t) (a := a) (by omega)
     have hkk : t[0].n.toNat - i = (t[0].n.toNat - (i + 1)) + 1 := by omega
     have hgo := partsGo_go (t := t) (k := t[0].n.toNat - (i + 1)) he
     rw [hkk, hgo] at hpL
     have hcut := h1.cut (lo := a) (hi := e) (by omega) het
     have hLl : L.length = l3 := hl3.symm
     refine cw_skip (pq_then (cw_seq (cw_region (ol_pure rfl (op_move rfl) (ol_pure rfl (op_move rfl) (ol_pure rfl (op_move rfl) (ol_pure rfl (op_move rfl) ?_)))))))
     refine ol_pure rfl (op_slice_lh (l := a) (h := e) sl_59 rfl rfl (by rw [← he]; rfl) (by omega) (by omega)) ?_
     refine ol_step rfl (op_buildSlice (el := 59) (is := [0]) (xs := [.tmp 37]) (sz := 1) (cs := [.slice (if ca = a then oa else oa.map (·.add (a * 3))) (e - a) (ca - a)]) hS rfl rfl (fun w => by kernel_rfl) rfl (by decide)) ?_
     clear hS
     rintro _ w ⟨s38, rfl, hS⟩
     refine ol_step rfl (op_append (j := 1) hS sl_104 el_59 rfl rfl rfl rfl rfl rfl (by decide) (hS.news (j := 0) rfl) (by simp [Value.oneCell']) (by omega) (by unfold maxLen; omega)) ?_
     clear hS
     rintro _ w ⟨oq, c_oq, rfl, hS⟩; (try simp only [List.nil_append, List.cons_append, List.set] at hS); replace hS := SS.drop [] hS; (try simp only [List.nil_append, List.cons_append] at hS)
     refine ol_pure rfl (op_assign rfl) (ol_nil (pq_then (cw_region (ol_pure rfl (op_move rfl) (ol_pure rfl (op_assign rfl) (ol_nil (pq_in_normal ?_)))))))
     refine pq_then (cw_region (ol_pure rfl (op_move rfl) (ol_pure rfl (op_add rfl rfl (by omega) (by omega)) (ol_pure rfl (op_assign rfl) (ol_nil ?_)))))
     refine pq_loop _ _ (by exact ⟨endI (t.drop a) 1 a, e, i + 1, L ++ [(t.take e).drop a], us ++ [.slice (if ca = a then oa else oa.map (·.add (a * 3))) (e - a) (ca - a)], oq, l3 + 1, c_oq, rfl, he, by simp [hl3], by simp; omega, by omega, by omega, by omega, by rw [hpL, List.append_assoc]; rfl, rfl, hus.snoc rfl ⟨_, rfl, hcut⟩, hS⟩) ((Sub.cons rfl (Sub.cons rfl (Sub.cons rfl (Sub.cons rfl Sub.nil))))) (by omega)
   ·
    try simp only [dqT, dqF, dq1, dq2, dq3, dq4, dq5] at h24
    refine cw_exit (pq_exit (pq_exit (pq_in_exit (pq_then (cw_seq (cw_region (ol_pure rfl (op_move rfl) ?_)))))))
    refine ol_pure rfl (op_assign rfl) (ol_nil (pq_then (cw_ret (ret1 rfl rfl ?_))))
    rw [show t[0].n.toNat - i = 0 from by omega, partsGo, List.append_nil] at hpL
    rw [hpL]
    obtain ⟨Ga, hla, hSa, hRT⟩ := SS.give' L [] EAtom.mono hS (by decide) hus hl3
    exact hSa.rt _ hRT
set_option maxRecDepth 100000 in
set_option maxHeartbeats 400000 in

theorem R08_maker_variable_c {G0 G : GH} {w0 w : World} {M : List Ent} {b : Nat} {st : Stt} {oC : Option Addr} {cC : Nat} {oA : Option Addr} {cA : Nat} (hS : SS G0 w0 G (MkS b st oC cC oA cA ++ M) w) (v : Nat) (hv : v ≤ 1000) (ha : st.2.length ≤ 1000000) :
   Calls Try.prog 59 #[.pointer (some ⟨b, 0, none⟩), .int .i64 (v : Nat)] w (fun en w' => en = .returned (.int .i64 (varI st.2 v)) ∧ ∃ oA' cA', SS G0 w0 G (MkS b (st.1, padI st.2 v) oC cC oA' cA' ++ M) w') := by
 refine enter Try.func59 rfl (N := 28) rfl (Nat.le_of_ble_eq_true rfl) ?_
 unfold MkS at hS
 simp only [List.cons_append, List.nil_append] at hS
 refine cw_seq (cw_region (ol_pure rfl (op_assign rfl) (ol_nil (pq_then (cw_seq (cw_block ?_))))))
 refine cw_loop (fun e w n => ∃ (at1 : List Int) (oA : Option Addr) (cA : Nat), e = [(0, .pointer (some ⟨b, 0, none⟩)), (1, .int .i64 (v : Nat))] ∧ padI at1 v = padI st.2 v ∧ at1.length ≤ st.2.length + 1001 ∧ n = v + 1 - at1.length ∧ SS G0 w0 G (.blk b 96 [.slice oC st.1.length cC, .slice oA at1.length cA] :: .row oC st.1.length cC 49 3 (cellsV st.1) :: .row oA at1.length cA 3 1 (at1.map (Value.int .i64)) :: M) w) _ _ (by exact ⟨st.2, oA, cA, rfl, rfl, by omega, rfl, hS⟩) ((Sub.cons rfl (Sub.cons rfl Sub.nil))) ?_
 clear hS
 rintro e w n ⟨at1, oA, cA, rfl, hp, hal, rfl, hS⟩
 refine cw_seq (cw_seq (cw_region (ol_pure rfl (op_move rfl) (ol_pure rfl (op_nilCheck rfl) (ol_pure rfl (op_fieldAddr fld_96_1 rfl) (ol_load rfl (op_load1 one_26 rfl (fun w hw => (hw.bcell (i := 0) rfl).trans rfl)) hS (ol_pure rfl (op_len sl_26 rfl rfl) ?_)))))))
 refine ol_pure rfl (op_move rfl) (ol_pure rfl (op_leq rfl rfl) (ol_nil (pq_then ?_)))
 refine cw_cond rfl (fun h11 => ?_) (fun h11 => ?_)
 ·
  try simp only [dqT, dqF, dq1, dq2, dq3, dq4, dq5] at h11
  have hpd := padI_step (at_ := at1) (v := v) (by omega)
  refine cw_skip (pq_then (cw_block (cw_region (ol_pure rfl (op_move rfl) (ol_pure rfl (op_move rfl) (ol_pure rfl (op_nilCheck rfl) (ol_pure rfl (op_fieldAddr fld_96_1 rfl) ?_)))))))
  refine ol_load rfl (op_load1 one_26 rfl (fun w hw => (hw.bcell (i := 0) rfl).trans rfl)) hS ?_
  refine ol_step rfl (op_buildSlice (el := 3) (is := [0]) (xs := [.const (.int .i64 (-1))]) (sz := 1) (cs := [.int .i64 (-1)]) hS rfl rfl (fun w => by kernel_rfl) rfl (by decide)) ?_
  clear hS
  rintro _ w ⟨s17, rfl, hS⟩
  refine ol_step rfl (op_append (j := 3) hS sl_26 el_3 rfl rfl rfl rfl rfl rfl (by decide) (hS.news (j := 0) rfl) (by simp [Value.oneCell']) (by omega) (by unfold maxLen; omega)) ?_
  clear hS
  rintro _ w ⟨oq, c_oq, rfl, hS⟩; (try simp only [List.nil_append, List.cons_append, List.set] at hS); replace hS := SS.drop [] hS; (try simp only [List.nil_append, List.cons_append] at hS)
  refine ol_pure rfl (op_nilCheck rfl) (ol_pure rfl (op_fieldAddr fld_96_1 rfl) ?_)
  refine ol_step0  (op_storeB (j := 0) (k := 1) hS sz_26 rfl rfl rfl rfl (by simp)) ?_
  clear hS
  rintro _ w hS; (try simp only [List.nil_append, List.cons_append, List.set] at hS)
  refine ol_nil (pq_in_normal ?_)
  refine pq_loop _ _ (by exact ⟨at1 ++ [-1], oq, c_oq, rfl, by rw [hpd, hp], by simp; omega, rfl, by simpa using hS⟩) ((Sub.cons rfl (Sub.cons rfl Sub.nil))) (by simp; omega)
 ·
  try simp only [dqT, dqF, dq1, dq2, dq3, dq4, dq5] at h11
  have hpd := padI_done (at_ := at1) (v := v) (by omega)
  rw [hpd] at hp
  have hvl : v < at1.length := by omega
  have hvc : (at1.map (Value.int .i64))[v * 1]? = some (.int .i64 at1[v]) := by simp [hvl]
  have hov := (hS.news (j := 2) rfl _ _ hvc).1
  refine cw_exit (pq_exit (pq_exit (pq_in_exit (pq_then (cw_seq (cw_region (ol_pure rfl (op_move rfl) ?_)))))))
  refine ol_pure rfl (op_nilCheck rfl) (ol_pure rfl (op_fieldAddr fld_96_1 rfl) (ol_load rfl (op_load1 one_26 rfl (fun w hw => (hw.bcell (i := 0) rfl).trans rfl)) hS (ol_pure rfl (op_move rfl) (ol_pure rfl (op_indexN (n := at1.length) sl_26 rfl rfl hvl hov) (ol_load rfl (op_load1 one_3 rfl (fun w hw => hw.rcell (i := 2) rfl hvc)) hS (ol_pure rfl (op_assign rfl) (ol_nil ?_)))))))
  refine pq_then (cw_ret (ret1 rfl rfl ?_))
  have hvr : varI st.2 v = at1[v] := by unfold varI; rw [← hp]; simp [hvl]
  rw [hvr]
  refine ⟨rfl, oA, cA, ?_⟩
  rw [← hp]
  exact hS
set_option maxRecDepth 100000 in
set_option maxHeartbeats 1000000 in

theorem R08_maker_one_c {G0 G : GH} {w0 w : World} {M : List Ent} {b : Nat} {st : Stt} {oC : Option Addr} {cC : Nat} {oA : Option Addr} {cA : Nat} (hS : SS G0 w0 G (MkS b st oC cC oA cA ++ M) w) {oa : Option Addr} {ca : Nat} (t : List Cell) (htn : t ≠ []) (h1 : RSl 3 ECell G (.slice oa t.length ca) t) (place : Nat) (hk : (headC t).kind ≠ 2 → (headC t).kind ≠ 3 → 0 ≤ (headC t).n ∧ (headC t).n ≤ 999) (ha : st.2.length ≤ 1000000) :
   Calls Try.prog 60 #[.pointer (some ⟨b, 0, none⟩), .slice oa t.length ca, .int .i64 (place : Nat)] w (fun en w' => ∃ v, en = .returned v ∧ v = .agg #[.int .i64 (oneI st.2 (headC t) place).1.kind, .string (oneI st.2 (headC t) place).1.name, .int .i64 (oneI st.2 (headC t) place).1.n] ∧ ∃ oA' cA', SS G0 w0 G (MkS b (st.1, (oneI st.2 (headC t) place).2) oC cC oA' cA' ++ M) w') := by
 obtain ⟨c0, t1, rfl⟩ : ∃ c0 t1, t = c0 :: t1 := by
   cases t with
   | nil => exact absurd rfl htn
   | cons x y => exact ⟨x, y, rfl⟩
 have ht0 : 0 < (c0 :: t1).length := by simp
 obtain ⟨hoa, hb0, hc0⟩ := h1.cellAt ht0
 simp only [List.getElem_cons_zero] at hc0 hb0
 have hhd : headC (c0 :: t1) = c0 := rfl
 rw [hhd] at hk ⊢
 refine enter Try.func60 rfl (N := 43) rfl (Nat.le_of_ble_eq_true rfl) ?_
 refine cw_seq (cw_region ?_)
 refine ol_step rfl (op_alloc hS el_49 rfl) ?_
 clear hS
 rintro _ w ⟨b6, rfl, hS⟩
 refine ol_nil (pq_then (cw_seq (cw_seq (cw_region (ol_pure rfl (op_move rfl) (ol_pure rfl (op_indexN (i := 0) sl_59 rfl rfl ht0 hoa) (ol_pure rfl (op_fieldAddr fld_58_0 rfl) ?_)))))))
 refine ol_load rfl (op_load1 one_3 rfl (fun w hw => hw.gcell (hc0 0 _ rfl))) hS (ol_nil (pq_then (cw_block (cw_seq (cw_region (ol_pure rfl (op_eql rfl rfl) (ol_pure rfl (op_assign rfl) ?_)))))))
 refine ol_nil (pq_then ?_)
 refine cw_cond rfl (fun h12 => ?_) (fun h12 => ?_)
 ·
  try simp only [dqT, dqF, dq1, dq2, dq3, dq4, dq5] at h12
  refine cw_seq (cw_region (ol_pure rfl (op_move rfl) (ol_pure rfl (op_indexN (i := 0) sl_59 rfl rfl ht0 hoa) (ol_pure rfl (op_fieldAddr fld_58_2 rfl) (ol_load rfl (op_load1 one_3 rfl (fun w hw => hw.gcell (hc0 2 _ rfl))) hS (ol_pure rfl (op_build (is := [0, 2]) (xs := [.const (.int .i64 (2)), .tmp 17]) (v := .agg #[.int .i64 2, .string ByteArray.empty, .int .i64 c0.n]) rfl rfl (fun w => by kernel_rfl)) ?_))))))
  refine ol_step0  (op_storeN (j := 0) hS sz_49 rfl rfl rfl rfl rfl (by simp [Value.oneCell'])) ?_
  clear hS
  rintro _ w hS; (try simp only [List.nil_append, List.cons_append, List.set] at hS)
  refine ol_nil (pq_then (cw_ret (pq_in_ret (pq_ret ?_))))
  refine retN rfl agg_49 rfl (by rfl) (fun k u hk => (hS.bcell (i := 0) rfl).trans hk) ?_
  have ho : oneI st.2 c0 place = (⟨2, ByteArray.empty, c0.n⟩, st.2) := by unfold oneI; rw [if_pos h12]
  rw [ho]
  exact ⟨_, rfl, rfl, oA, cA, SS.drop [] hS⟩
 ·
  try simp only [dqT, dqF, dq1, dq2, dq3, dq4, dq5] at h12
  refine cw_seq (cw_region (ol_pure rfl (op_eql rfl rfl) (ol_pure rfl (op_assign rfl) (ol_nil (pq_then ?_)))))
  refine cw_cond rfl (fun h19 => ?_) (fun h19 => ?_)
  ·
   try simp only [dqT, dqF, dq1, dq2, dq3, dq4, dq5] at h19
   refine cw_seq (cw_region (ol_pure rfl (op_build (is := [0]) (xs := [.const (.int .i64 (3))]) (v := .agg #[.int .i64 3, .string ByteArray.empty, .int .i64 0]) rfl rfl (fun w => by kernel_rfl)) ?_))
   refine ol_step0  (op_storeN (j := 0) hS sz_49 rfl rfl rfl rfl rfl (by simp [Value.oneCell'])) ?_
   clear hS
   rintro _ w hS; (try simp only [List.nil_append, List.cons_append, List.set] at hS)
   refine ol_nil (pq_then (cw_ret (pq_in_ret (pq_ret ?_))))
   refine retN rfl agg_49 rfl (by rfl) (fun k u hk => (hS.bcell (i := 0) rfl).trans hk) ?_
   have ho : oneI st.2 c0 place = (⟨3, ByteArray.empty, 0⟩, st.2) := by unfold oneI; rw [if_neg (by omega), if_pos (by omega)]
   rw [ho]
   exact ⟨_, rfl, rfl, oA, cA, SS.drop [] hS⟩
  ·
   try simp only [dqT, dqF, dq1, dq2, dq3, dq4, dq5] at h19
   refine cw_skip (pq_in_normal (pq_then (cw_seq ?_)))
   have hk0 := hk (by omega) (by omega)
   obtain ⟨v, hv⟩ := Int.eq_ofNat_of_zero_le hk0.1
   have h2' : ¬ c0.kind = 2 := by omega
   have h3' : ¬ c0.kind = 3 := by omega
   have hS2 : SS G0 w0 G (MkS b st oC cC oA cA ++ .blk b6 49 [.int .i64 0, .string ByteArray.empty, .int .i64 0] :: M) w := SS.back1 (MkS b st oC cC oA cA) hS
   refine cw_region (ol_pure rfl (op_move rfl) (ol_pure rfl (op_move rfl) (ol_pure rfl (op_indexN (i := 0) sl_59 rfl rfl ht0 hoa) (ol_pure rfl (op_fieldAddr fld_58_2 rfl) (ol_load rfl (op_load1 (v := .int .i64 (v : Nat)) one_3 rfl (fun w hw => hw.gcell (by rw [← hv]; exact hc0 2 _ rfl))) hS ?_)))))
   refine ol_step rfl (op_callu cf_59 rfl (R08_maker_variable_c hS2 v (by omega) ha)) ?_
   clear hS
   rintro _ w ⟨rfl, oA', cA', hS⟩
   have hpl := padI_len st.2 v
   unfold MkS at hS
   simp only [List.cons_append, List.nil_append] at hS
   have hvl : v < (padI st.2 v).length := by omega
   have hvc : ((padI st.2 v).map (Value.int .i64))[v * 1]? = some (.int .i64 (padI st.2 v)[v]) := by simp [hvl]
   have hov := (hS.news (j := 2) rfl _ _ hvc).1
   refine ol_pure rfl (op_assign rfl) (ol_nil (pq_then ?_))
   refine cw_cut (fun e w => e = [(6, .pointer (some ⟨b6, 0, none⟩)), (7, .int .i64 (oneI st.2 c0 place).1.n)] ∧ SS G0 w0 G (.blk b 96 [.slice oC st.1.length cC, .slice oA' (oneI st.2 c0 place).2.length cA'] :: .row oC st.1.length cC 49 3 (cellsV st.1) :: .row oA' (oneI st.2 c0 place).2.length cA' 3 1 ((oneI st.2 c0 place).2.map (Value.int .i64)) :: .blk b6 49 [.int .i64 0, .string ByteArray.empty, .int .i64 0] :: M) w) ?_ ?_
   ·
    refine cw_seq ?_
    
    refine cw_region (ol_pure rfl (op_move rfl) (ol_pure rfl (op_lss rfl rfl) (ol_nil (pq_then ?_))))
    refine cw_cond rfl (fun h29 => ?_) (fun h29 => ?_)
    ·
     try simp only [dqT, dqF, dq1, dq2, dq3, dq4, dq5] at h29
     refine cw_seq (cw_region (ol_pure rfl (op_move rfl) (ol_pure rfl (op_assign rfl) (ol_nil (pq_then ?_)))))
     refine al_start' hS (hS.take 4) (by kernel_rfl) rfl (fun w hS hT => ?_)
     refine al_take (i := 0) rfl (by kernel_rfl) (by kernel_rfl) (by kernel_rfl) rfl (fun _ _ _ h => h) (op_move rfl) rfl (al_take (i := 1) rfl (by kernel_rfl) (by kernel_rfl) (by kernel_rfl) rfl (fun _ _ _ h => h) (op_nilCheck rfl) rfl (al_take (i := 2) rfl (by kernel_rfl) (by kernel_rfl) (by kernel_rfl) rfl (fun _ _ _ h => h) (op_fieldAddr fld_96_1 rfl) rfl (al_load (i := 3) rfl (by kernel_rfl) (by kernel_rfl) (by kernel_rfl) rfl (fun _ _ _ h => h) (by exact op_load1 one_26 rfl (fun w hw => (hw.bcell (i := 0) rfl).trans rfl)) rfl hT (al_take (i := 4) rfl (by kernel_rfl) (by kernel_rfl) (by kernel_rfl) rfl (fun _ _ _ h => h) (op_move rfl) rfl (al_take (i := 5) rfl (by kernel_rfl) (by kernel_rfl) (by kernel_rfl) rfl (fun _ _ _ h => h) (op_indexN (i := 0) sl_59 rfl rfl ht0 hoa) rfl (al_take (i := 6) rfl (by kernel_rfl) (by kernel_rfl) (by kernel_rfl) rfl (fun _ _ _ h => h) (op_fieldAddr fld_58_2 rfl) rfl (al_load (i := 7) rfl (by kernel_rfl) (by kernel_rfl) (by kernel_rfl) rfl (fun _ _ _ h => h) (by exact op_load1 (v := .int .i64 (v : Nat)) one_3 rfl (fun w hw => hw.gcell (by rw [← hv]; exact hc0 2 _ rfl))) rfl hT ?_)))))))
     refine al_take (i := 8) rfl (by kernel_rfl) (by kernel_rfl) (by kernel_rfl) rfl (fun _ _ _ h => h) (op_move rfl) rfl (al_take (i := 9) rfl (by kernel_rfl) (by kernel_rfl) (by kernel_rfl) rfl (fun _ _ _ h => h) (op_indexN (n := (padI st.2 v).length) sl_26 rfl rfl hvl hov) rfl ?_)
     refine al_step0 (i := 10) rfl (by kernel_rfl) (op_storeR (j := 2) (k := v * 1) hS sz_3 rfl rfl rfl rfl (by simpa using hvl)) ?_
     clear hS
     rintro _ w hS; (try simp only [List.nil_append, List.cons_append, List.set] at hS)
     refine ⟨no_need (by kernel_rfl), ?_⟩
     refine al_done (by kernel_rfl) ?_
     refine pq_cut _ (by exact (by first | (have ho : oneI st.2 c0 place = (refC place, (padI st.2 v).set v place) := (by unfold oneI; rw [if_neg h2', if_neg h3', show c0.n.toNat = v from by omega, if_pos h29]); rw [ho]; exact ⟨rfl, by simpa using hS⟩) | (have ho : oneI st.2 c0 place = (refC (varI st.2 v), padI st.2 v) := (by unfold oneI; rw [if_neg h2', if_neg h3', show c0.n.toNat = v from by omega, if_neg h29]); rw [ho]; exact ⟨rfl, hS⟩))) ((Sub.cons rfl (Sub.cons rfl Sub.nil)))
    ·
     try simp only [dqT, dqF, dq1, dq2, dq3, dq4, dq5] at h29
     refine cw_skip ?_
     refine pq_cut _ (by exact (by first | (have ho : oneI st.2 c0 place = (refC place, (padI st.2 v).set v place) := (by unfold oneI; rw [if_neg h2', if_neg h3', show c0.n.toNat = v from by omega, if_pos h29]); rw [ho]; exact ⟨rfl, by simpa using hS⟩) | (have ho : oneI st.2 c0 place = (refC (varI st.2 v), padI st.2 v) := (by unfold oneI; rw [if_neg h2', if_neg h3', show c0.n.toNat = v from by omega, if_neg h29]); rw [ho]; exact ⟨rfl, hS⟩))) ((Sub.cons rfl (Sub.cons rfl Sub.nil)))
   clear hS
   rintro e w ⟨rfl, hS⟩
   refine cw_seq ?_
   have hok : (oneI st.2 c0 place).1 = ⟨1, ByteArray.empty, (oneI st.2 c0 place).1.n⟩ := by unfold oneI; rw [if_neg h2', if_neg h3']; split <;> rfl
   refine cw_region (ol_pure rfl (op_move rfl) (ol_pure rfl (op_build (is := [0, 2]) (xs := [.const (.int .i64 (1)), .tmp 41]) (v := .agg #[.int .i64 1, .string ByteArray.empty, .int .i64 (oneI st.2 c0 place).1.n]) rfl rfl (fun w => by kernel_rfl)) ?_))
   refine ol_step0  (op_storeN (j := 3) hS sz_49 rfl rfl rfl rfl rfl (by simp [Value.oneCell'])) ?_
   clear hS
   rintro _ w hS; (try simp only [List.nil_append, List.cons_append, List.set] at hS)
   refine ol_nil (pq_then (cw_ret ?_))
   refine retN rfl agg_49 rfl (by rfl) (fun k u hk => (hS.bcell (i := 3) rfl).trans hk) ?_
   rw [hok]
   exact ⟨_, rfl, rfl, oA', cA', SS.drop [_, _, _] hS⟩
end Go.Proofs.Ytnmkffkalnkbbaa.K
