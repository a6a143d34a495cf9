/-
  Heaps: terms that are put.
  No condition but the premises that each theorem names.
-/
import Derived.Test.YtnmkffkalnkbbaaHp8
import Derived.Test.YtnmkffkalnkbbaaPhi
import Derived.Laws.Strings
namespace Go.Proofs.Ytnmkffkalnkbbaa.K
open Go Go.RowKit
set_option linter.unusedVariables false
set_option linter.unusedSimpArgs false

open Pl
theorem nil_size {s : ByteArray} (h : s.toList = []) : s.size = 0 := by
  rw [ByteArray.toList_eq] at h
  have : s.data = #[] := by simpa using h
  simp [ByteArray.size, this]
theorem SlotR.bd {cs : List Cell} {p : Nat} {s : Cell} (h : SlotR cs p s) (hl : cs.length ≤ 1000000) : CellBd s := by
  unfold CellBd
  rcases h with ⟨h1, h2, h3⟩ | ⟨h1, h2, h3⟩ | ⟨h1, h2, h3⟩ | ⟨h1, h2, h3, _, h5, _⟩
  · have := nil_size h2
    omega
  · have := nil_size h2
    omega
  · have := nil_size h2
    omega
  · simp only [nameB, Bool.and_eq_true, decide_eq_true_eq] at h5
    omega
theorem SlR.bd {cs : List Cell} (h : SlR cs) (hl : cs.length ≤ 1000000) : ∀ c ∈ cs, CellBd c := fun c hc => by
  obtain ⟨i, hi, rfl⟩ := List.getElem_of_mem hc
  exact SlotR.bd (h i hi) hl
def PutR (r : Int × Stt) (tr : List Int) (room : Int) (G : GH) (v : Value) : Prop := ∃ hv va, v = .tuple #[hv, .int .i64 r.1, va, .int .i64 0] ∧ EHeap G hv r.2.1 tr room ∧ RSl 1 EInt G va r.2.2
theorem PutR.mono {r : Int × Stt} {tr : List Int} {room : Int} : ∀ (G1 G2 : GH) (v : Value), Le G1 G2 → PutR r tr room G1 v → PutR r tr room G2 v := fun _ _ _ hl ⟨hv, va, h1, h2, h3⟩ => ⟨hv, va, h1, h2.mono hl, h3.mono EInt.mono hl⟩
theorem pad_pad (a : List Int) (v : Nat) : padI (padI a v) v = padI a v := padI_done (by rw [padI_len]; omega)
theorem var_pad (a : List Int) (v : Nat) : varI (padI a v) v = varI a v := by
  unfold varI
  rw [pad_pad]

set_option maxRecDepth 100000 in
set_option maxHeartbeats 4000000 in

theorem R08_Put_c (G : GH) (w0 : World) (hG : Holds G w0) (hv : Value) (cs : List Cell) (tr : List Int) (room : Int) (hh : EHeap G hv cs tr room) (vt : Value) (t : List Cell) (h3 : RSl 3 ECell G vt t) (va : Value) (at_ : List Int) (h4 : RSl 1 EInt G va at_) (hs : SlR cs) (hr : Rk cs) (hat : ∀ x ∈ at_, x = -1 ∨ (0 ≤ x ∧ x < cs.length)) (ha : at_.length ≤ 1000) (ht : isT t) (htl : t.length ≤ 500) (hcl : cs.length ≤ 10000) (hfit : (cs.length : Int) + 2 * t.length ≤ room) (htrl : tr.length ≤ 1000000) :
   Calls Try.prog 28 #[hv, vt, va] w0 (Rt G w0 (PutR (putI t (cs, at_)) tr room)) := by
 have hh0 := hh
 obtain ⟨oc, cc, ot, ct, rfl, h1, h2⟩ := hh
 have hle := h1.le
 have hle2 := h2.le
 obtain ⟨oa, ca, rfl, _, _⟩ := h3.elim
 obtain ⟨oU, cU, rfl, _, _⟩ := h4.elim
 have ht0 := ht.pos
 obtain ⟨hoa, hb0, hc0⟩ := h3.cellAt ht0
 have hhd : headC t = t[0] := by
   cases t with
   | nil => simp at ht0
   | cons c t => rfl
 rw [← hhd] at hb0 hc0
 have htn : t ≠ [] := fun hh => by rw [hh] at ht0; simp at ht0
 have hpo := putI_ok hs hr hat ha ht
 have hho := ht.headOk
 refine enter Try.func28 rfl (N := 90) rfl (Nat.le_of_ble_eq_true rfl) ?_
 have hS := SS.init hG
 refine cw_seq (cw_region ?_)
 refine ol_step rfl (op_box hS rfl rfl) ?_
 clear hS
 rintro _ w ⟨b3, rfl, hS⟩
 refine ol_step rfl (op_alloc hS el_28 rfl) ?_
 clear hS
 rintro _ w ⟨b6, rfl, hS⟩
 refine ol_pure rfl (op_assign rfl) (ol_pure rfl (op_assign rfl) (ol_pure rfl (op_assign rfl) (ol_nil (pq_then (cw_seq (cw_region ?_))))))
 refine ol_step rfl (op_buildSlice (el := 49) (is := []) (xs := []) (sz := 3) (cs := []) hS rfl rfl (fun w => by kernel_rfl) rfl (by decide)) ?_
 clear hS
 rintro _ w ⟨c1, rfl, hS⟩
 refine ol_pure rfl (op_fieldAddr fld_28_0 rfl) (ol_load rfl (op_load1 one_25 rfl (fun w hw => (hw.bcell (i := 2) rfl).trans rfl)) hS ?_)
 refine ol_step rfl (op_append (j := 0) (m := cs.length) (news := cellsV cs) hS sl_25 el_49 rfl rfl rfl rfl rfl (cellsV_len cs) (by decide) (h1.newsC hS.hold) (ones_c cs) (by omega) (by unfold maxLen; omega)) ?_
 clear hS
 rintro _ w ⟨cells, c_cells, rfl, hS⟩; (try simp only [List.nil_append, List.cons_append, List.set] at hS)
 refine ol_step rfl (op_buildSlice (el := 3) (is := []) (xs := []) (sz := 1) (cs := []) hS rfl rfl (fun w => by kernel_rfl) rfl (by decide)) ?_
 clear hS
 rintro _ w ⟨a1, rfl, hS⟩
 refine ol_pure rfl (op_move rfl) ?_
 refine ol_step rfl (op_append (j := 0) (m := at_.length) (news := at_.map (Value.int .i64)) hS sl_26 el_3 rfl rfl rfl rfl rfl (by simp) (by decide) (h4.newsI hS.hold) (ones_i at_) (by omega) (by unfold maxLen; omega)) ?_
 clear hS
 rintro _ w ⟨at1, c_at1, rfl, hS⟩; (try simp only [List.nil_append, List.cons_append, List.set] at hS)
 refine ol_pure rfl (op_build (is := [0, 1]) (xs := [.tmp 15, .tmp 18]) (v := .agg #[.slice cells (0 + cs.length) c_cells, .slice at1 (0 + at_.length) c_at1]) rfl rfl (fun w => by kernel_rfl)) ?_
 refine ol_step rfl (op_box hS rfl rfl) ?_
 clear hS
 rintro _ w ⟨m, rfl, hS⟩
 simp only [Nat.zero_add] at hS
 replace hS := SS.swap [_] hS
 simp only [List.nil_append, List.cons_append] at hS
 have hS2 : SS G w0 G (MkS m (cs, at_) cells c_cells at1 c_at1 ++ [.blk b6 28 [.slice none 0 0, .slice none 0 0, .int .i64 0], .blk b3 28 [.slice oc cs.length cc, .slice ot tr.length ct, .int .i64 room]]) w := by
   unfold MkS
   exact hS
 refine ol_pure rfl (op_assign rfl) (ol_nil (pq_then (cw_seq ?_)))
 
 refine cw_region (ol_pure rfl (op_move rfl) (ol_pure rfl (op_nilCheck rfl) (ol_pure rfl (op_fieldAddr fld_96_0 rfl) (ol_load rfl (op_load1 one_25 rfl (fun w hw => (hw.bcell (i := 0) rfl).trans rfl)) hS (ol_pure rfl (op_len sl_25 rfl rfl) (ol_pure rfl (op_assign rfl) (ol_nil ?_)))))))
 refine pq_then ?_
 refine cw_cut (fun e w => ∃ (x11 : Int) (Gc : GH) (oC : Option Addr) (cC : Nat) (oA : Option Addr) (cA : Nat), e = [(3, .pointer (some ⟨b3, 0, none⟩)), (6, .pointer (some ⟨b6, 0, none⟩)), (10, .pointer (some ⟨m, 0, none⟩)), (11, .int .i64 x11)] ∧ x11 = (putI t (cs, at_)).1 ∧ Le G Gc ∧ SS G w0 Gc (MkS m (putI t (cs, at_)).2 oC cC oA cA ++ [.blk b6 28 [.slice none 0 0, .slice none 0 0, .int .i64 0], .blk b3 28 [.slice oc cs.length cc, .slice ot tr.length ct, .int .i64 room]]) w) ?_ ?_
 ·
  refine cw_seq (cw_region (ol_pure rfl (op_move rfl) (ol_pure rfl (op_indexN (i := 0) sl_59 rfl rfl ht0 hoa) (ol_pure rfl (op_fieldAddr fld_58_0 rfl) (ol_load rfl (op_load1 one_3 rfl (fun w hw => hw.gcell (hc0 0 _ rfl))) hS (ol_pure rfl (op_eql rfl rfl) (ol_nil ?_)))))))
  refine pq_then ?_
  refine cw_cond rfl (fun h30 => ?_) (fun h30 => ?_)
  ·
   try simp only [dqT, dqF, dq1, dq2, dq3, dq4, dq5] at h30
   refine cw_region (ol_pure rfl (op_move rfl) (ol_pure rfl (op_move rfl) ?_))
   refine ol_step rfl (op_call cf_58 rfl (funC t.length hS2 t h3 ht h30 (Nat.le_refl _) htl ha (by simp only; omega))) ?_
   clear hS
   rintro _ w ⟨rfl, G', oC', cC', oA', cA', hle', hS⟩
   refine ol_nil ?_
   refine pq_cut _ (by exact ⟨(cs.length : Int), G', oC', cC', oA', cA', rfl, by unfold putI; rw [if_pos h30], hle', by rw [show (putI t (cs, at_)).2 = funI t.length t (cs, at_) from by unfold putI; rw [if_pos h30]]; exact hS⟩) ((Sub.cons rfl (Sub.cons rfl (Sub.cons rfl (Sub.cons rfl Sub.nil)))))
  ·
   try simp only [dqT, dqF, dq1, dq2, dq3, dq4, dq5] at h30
   refine cw_seq (cw_region (ol_pure rfl (op_move rfl) (ol_pure rfl (op_indexN (i := 0) sl_59 rfl rfl ht0 hoa) (ol_pure rfl (op_fieldAddr fld_58_0 rfl) (ol_load rfl (op_load1 one_3 rfl (fun w hw => hw.gcell (hc0 0 _ rfl))) hS (ol_pure rfl (op_eql rfl rfl) (ol_pure rfl (op_move rfl) ?_)))))))
   refine ol_split (fun h39 => ?_) (fun h39 => ?_)
   ·
    try simp only [dqT, dqF, dq1, dq2, dq3, dq4, dq5] at h39
    have hk1 : (headC t).kind = 1 := h39
    have hv := hho (by omega) (by omega)
    obtain ⟨v, hvn⟩ := Int.eq_ofNat_of_zero_le hv.1
    refine ol_guard_pure rfl rfl rfl (op_move rfl) (ol_guard_pure rfl rfl rfl (op_move rfl) (ol_guard_pure rfl rfl rfl (op_indexN (i := 0) sl_59 rfl rfl ht0 hoa) (ol_guard_pure rfl rfl rfl (op_fieldAddr fld_58_2 rfl) (ol_guard_load rfl rfl rfl (op_load1 (v := .int .i64 (v : Nat)) one_3 rfl (fun w hw => hw.gcell (by rw [← hvn]; exact hc0 2 _ rfl))) hS ?_))))
    refine ol_guard_step rfl rfl rfl (op_callu cf_59 rfl (R08_maker_variable_c hS2 v (by omega) (by simp only; omega))) ?_
    clear hS
    rintro _ w ⟨rfl, oA', cA', hS⟩
    refine ol_guard_pure rfl rfl rfl (op_geq rfl rfl) (ol_pure rfl (op_pick_t rfl rfl) (ol_nil (pq_then ?_)))
    refine cw_cond rfl (fun h47 => ?_) (fun h47 => ?_)
    ·
     try simp only [dqT, dqF, dq1, dq2, dq3, dq4, dq5] at h47
     have hpv : putI t (cs, at_) = (varI at_ v, (cs, padI at_ v)) := by unfold putI; rw [if_neg h30, show (headC t).n.toNat = v from by omega, if_pos ⟨hk1, h47⟩]
     refine cw_region (ol_pure rfl (op_move rfl) (ol_pure rfl (op_move rfl) (ol_pure rfl (op_indexN (i := 0) sl_59 rfl rfl ht0 hoa) (ol_pure rfl (op_fieldAddr fld_58_2 rfl) (ol_load rfl (op_load1 (v := .int .i64 (v : Nat)) one_3 rfl (fun w hw => hw.gcell (by rw [← hvn]; exact hc0 2 _ rfl))) hS ?_)))))
     have hpdl := padI_len at_ v
     refine ol_step rfl (op_callu cf_59 rfl (R08_maker_variable_c hS v (by omega) (by simp only; omega))) ?_
     clear hS
     rintro _ w ⟨rfl, oA'', cA'', hS⟩
     refine ol_pure rfl (op_assign rfl) (ol_nil ?_)
     refine pq_cut _ (by exact ⟨varI (padI at_ v) v, G, cells, c_cells, oA'', cA'', rfl, by rw [hpv, var_pad], Le.refl _, by rw [hpv]; rw [pad_pad] at hS; exact hS⟩) ((Sub.cons rfl (Sub.cons rfl (Sub.cons rfl (Sub.cons rfl Sub.nil)))))
    ·
     try simp only [dqT, dqF, dq1, dq2, dq3, dq4, dq5] at h47
     obtain ⟨a7, oA7, cA7, ha7, ha7l, hS7⟩ : ∃ a7 oA7 cA7, a7 = (if (headC t).kind = 1 then padI at_ (headC t).n.toNat else at_) ∧ a7.length ≤ 1001 ∧ SS G w0 G (MkS m (cs, a7) cells c_cells oA7 cA7 ++ [.blk b6 28 [.slice none 0 0, .slice none 0 0, .int .i64 0], .blk b3 28 [.slice oc cs.length cc, .slice ot tr.length ct, .int .i64 room]]) w := by
       first
       | exact ⟨padI at_ v, oA', cA', by rw [if_pos hk1, show (headC t).n.toNat = v from by omega], by rw [padI_len]; omega, hS⟩
       | exact ⟨at_, at1, c_at1, by rw [if_neg h39], by omega, hS2⟩
     have hpv : putI t (cs, at_) = ((cs.length : Int), addI (cs, a7) t) := by
       unfold putI
       rw [if_neg h30, if_neg (by first | exact (fun hh => h39 hh.1) | exact (fun hh => h47 (by rw [show v = (headC t).n.toNat from by omega]; exact hh.2))), ha7]
     clear hS
     have hS := hS7
     unfold MkS at hS
     simp only [List.cons_append, List.nil_append] at hS
     refine al_start' hS (SS.part [] hS) (by kernel_rfl) rfl (fun w hS hT => ?_)
     refine al_take (i := 0) rfl (by kernel_rfl) (by kernel_rfl) (by kernel_rfl) rfl (fun _ _ _ h => h) (op_move rfl) rfl (al_take (i := 1) rfl (by kernel_rfl) (by kernel_rfl) (by kernel_rfl) rfl (fun _ _ _ h => h) (op_move rfl) rfl (al_take (i := 2) rfl (by kernel_rfl) (by kernel_rfl) (by kernel_rfl) rfl (fun _ _ _ h => h) (op_nilCheck rfl) rfl (al_take (i := 3) rfl (by kernel_rfl) (by kernel_rfl) (by kernel_rfl) rfl (fun _ _ _ h => h) (op_fieldAddr fld_96_0 rfl) rfl (al_load (i := 4) rfl (by kernel_rfl) (by kernel_rfl) (by kernel_rfl) rfl (fun _ _ _ h => h) (by exact op_load1 one_25 rfl (fun w hw => hw.rcell (i := 0) (k := 0) rfl rfl)) rfl hT (al_take (i := 5) rfl (by kernel_rfl) (by kernel_rfl) (by kernel_rfl) rfl (fun _ _ _ h => h) (op_move rfl) rfl (al_take (i := 6) rfl (by kernel_rfl) (by kernel_rfl) (by kernel_rfl) rfl (fun _ _ _ h => h) (op_move rfl) rfl (al_take (i := 7) rfl (by kernel_rfl) (by kernel_rfl) (by kernel_rfl) rfl (fun _ _ _ h => h) (op_move rfl) rfl ?_)))))))
     have hS7 : SS G w0 G (MkS m (cs, a7) cells c_cells oA7 cA7 ++ [.blk b6 28 [.slice none 0 0, .slice none 0 0, .int .i64 0], .blk b3 28 [.slice oc cs.length cc, .slice ot tr.length ct, .int .i64 room]]) w := hS
     refine al_step (i := 8) rfl (by kernel_rfl) rfl (op_call cf_60 rfl (R08_maker_one_c hS7 t htn h3 cs.length hho (by simp only; omega))) ?_
     clear hS
     rintro _ w ⟨rfl, oA', cA', hS⟩
     unfold MkS at hS
     simp only [List.cons_append, List.nil_append] at hS
     have hT := hT.back (SS.part [] hS) (Le.refl _) (fun x hx => hx)
     refine ⟨fun _ _ => hT, ?_⟩
     refine al_step (i := 9) rfl (by kernel_rfl) rfl (op_buildSlice (el := 49) (is := [0]) (xs := [.tmp 62]) (sz := 3) (cs := cellV (oneI a7 (headC t) cs.length).1) hS rfl rfl (fun w => by kernel_rfl) rfl (by decide)) ?_
     clear hS
     rintro _ w ⟨s63, rfl, hS⟩
     have hT := hT.back (SS.part [_] hS) (Le.refl _) (fun x hx => hx)
     refine ⟨fun _ _ => hT, ?_⟩
     refine al_step (i := 10) rfl (by kernel_rfl) rfl (op_append (j := 2) hS sl_25 el_49 rfl rfl rfl rfl rfl rfl (by decide) (hS.news (j := 0) rfl) (by simp [cellV, Value.oneCell']) (by omega) (by unfold maxLen; omega)) ?_
     clear hS
     rintro _ w ⟨oq, c_oq, rfl, hS⟩; (try simp only [List.nil_append, List.cons_append, List.set] at hS); replace hS := SS.drop [] hS; (try simp only [List.nil_append, List.cons_append] at hS)
     refine ⟨no_need (by kernel_rfl), ?_⟩
     refine al_take (i := 11) rfl (by kernel_rfl) (by kernel_rfl) (by kernel_rfl) rfl (fun _ _ _ h => h) (op_nilCheck rfl) rfl (al_take (i := 12) rfl (by kernel_rfl) (by kernel_rfl) (by kernel_rfl) rfl (fun _ _ _ h => h) (op_fieldAddr fld_96_0 rfl) rfl ?_)
     refine al_step0 (i := 13) rfl (by kernel_rfl) (op_storeB (j := 0) (k := 0) hS sz_25 rfl rfl rfl rfl (by simp)) ?_
     clear hS
     rintro _ w hS; (try simp only [List.nil_append, List.cons_append, List.set] at hS)
     refine ⟨no_need (by kernel_rfl), ?_⟩
     refine al_done (by kernel_rfl) ?_
     refine pq_cut _ (by exact ⟨(cs.length : Int), G, oq, c_oq, oA', cA', rfl, by rw [hpv], Le.refl _, by rw [hpv]; unfold MkS addI; simpa [cellsV] using hS⟩) ((Sub.cons rfl (Sub.cons rfl (Sub.cons rfl (Sub.cons rfl Sub.nil)))))
   ·
    try simp only [dqT, dqF, dq1, dq2, dq3, dq4, dq5] at h39
    refine ol_guard_no rfl rfl rfl rfl (ol_guard_no rfl rfl rfl rfl (ol_guard_no rfl rfl rfl rfl (ol_guard_no rfl rfl rfl rfl (ol_guard_no rfl rfl rfl rfl (ol_guard_no rfl rfl rfl rfl (ol_guard_no rfl rfl rfl rfl (ol_pure rfl (op_pick_f rfl rfl) ?_)))))))
    refine ol_nil (pq_then (cw_cond_f rfl ?_))
    obtain ⟨a7, oA7, cA7, ha7, ha7l, hS7⟩ : ∃ a7 oA7 cA7, a7 = (if (headC t).kind = 1 then padI at_ (headC t).n.toNat else at_) ∧ a7.length ≤ 1001 ∧ SS G w0 G (MkS m (cs, a7) cells c_cells oA7 cA7 ++ [.blk b6 28 [.slice none 0 0, .slice none 0 0, .int .i64 0], .blk b3 28 [.slice oc cs.length cc, .slice ot tr.length ct, .int .i64 room]]) w := by
      first
      | exact ⟨padI at_ v, oA', cA', by rw [if_pos hk1, show (headC t).n.toNat = v from by omega], by rw [padI_len]; omega, hS⟩
      | exact ⟨at_, at1, c_at1, by rw [if_neg h39], by omega, hS2⟩
    have hpv : putI t (cs, at_) = ((cs.length : Int), addI (cs, a7) t) := by
      unfold putI
      rw [if_neg h30, if_neg (by first | exact (fun hh => h39 hh.1) | exact (fun hh => h47 (by rw [show v = (headC t).n.toNat from by omega]; exact hh.2))), ha7]
    clear hS
    have hS := hS7
    unfold MkS at hS
    simp only [List.cons_append, List.nil_append] at hS
    refine al_start' hS (SS.part [] hS) (by kernel_rfl) rfl (fun w hS hT => ?_)
    refine al_take (i := 0) rfl (by kernel_rfl) (by kernel_rfl) (by kernel_rfl) rfl (fun _ _ _ h => h) (op_move rfl) rfl (al_take (i := 1) rfl (by kernel_rfl) (by kernel_rfl) (by kernel_rfl) rfl (fun _ _ _ h => h) (op_move rfl) rfl (al_take (i := 2) rfl (by kernel_rfl) (by kernel_rfl) (by kernel_rfl) rfl (fun _ _ _ h => h) (op_nilCheck rfl) rfl (al_take (i := 3) rfl (by kernel_rfl) (by kernel_rfl) (by kernel_rfl) rfl (fun _ _ _ h => h) (op_fieldAddr fld_96_0 rfl) rfl (al_load (i := 4) rfl (by kernel_rfl) (by kernel_rfl) (by kernel_rfl) rfl (fun _ _ _ h => h) (by exact op_load1 one_25 rfl (fun w hw => hw.rcell (i := 0) (k := 0) rfl rfl)) rfl hT (al_take (i := 5) rfl (by kernel_rfl) (by kernel_rfl) (by kernel_rfl) rfl (fun _ _ _ h => h) (op_move rfl) rfl (al_take (i := 6) rfl (by kernel_rfl) (by kernel_rfl) (by kernel_rfl) rfl (fun _ _ _ h => h) (op_move rfl) rfl (al_take (i := 7) rfl (by kernel_rfl) (by kernel_rfl) (by kernel_rfl) rfl (fun _ _ _ h => h) (op_move rfl) rfl ?_)))))))
    have hS7 : SS G w0 G (MkS m (cs, a7) cells c_cells oA7 cA7 ++ [.blk b6 28 [.slice none 0 0, .slice none 0 0, .int .i64 0], .blk b3 28 [.slice oc cs.length cc, .slice ot tr.length ct, .int .i64 room]]) w := hS
    refine al_step (i := 8) rfl (by kernel_rfl) rfl (op_call cf_60 rfl (R08_maker_one_c hS7 t htn h3 cs.length hho (by simp only; omega))) ?_
    clear hS
    rintro _ w ⟨rfl, oA', cA', hS⟩
    unfold MkS at hS
    simp only [List.cons_append, List.nil_append] at hS
    have hT := hT.back (SS.part [] hS) (Le.refl _) (fun x hx => hx)
    refine ⟨fun _ _ => hT, ?_⟩
    refine al_step (i := 9) rfl (by kernel_rfl) rfl (op_buildSlice (el := 49) (is := [0]) (xs := [.tmp 62]) (sz := 3) (cs := cellV (oneI a7 (headC t) cs.length).1) hS rfl rfl (fun w => by kernel_rfl) rfl (by decide)) ?_
    clear hS
    rintro _ w ⟨s63, rfl, hS⟩
    have hT := hT.back (SS.part [_] hS) (Le.refl _) (fun x hx => hx)
    refine ⟨fun _ _ => hT, ?_⟩
    refine al_step (i := 10) rfl (by kernel_rfl) rfl (op_append (j := 2) hS sl_25 el_49 rfl rfl rfl rfl rfl rfl (by decide) (hS.news (j := 0) rfl) (by simp [cellV, Value.oneCell']) (by omega) (by unfold maxLen; omega)) ?_
    clear hS
    rintro _ w ⟨oq, c_oq, rfl, hS⟩; (try simp only [List.nil_append, List.cons_append, List.set] at hS); replace hS := SS.drop [] hS; (try simp only [List.nil_append, List.cons_append] at hS)
    refine ⟨no_need (by kernel_rfl), ?_⟩
    refine al_take (i := 11) rfl (by kernel_rfl) (by kernel_rfl) (by kernel_rfl) rfl (fun _ _ _ h => h) (op_nilCheck rfl) rfl (al_take (i := 12) rfl (by kernel_rfl) (by kernel_rfl) (by kernel_rfl) rfl (fun _ _ _ h => h) (op_fieldAddr fld_96_0 rfl) rfl ?_)
    refine al_step0 (i := 13) rfl (by kernel_rfl) (op_storeB (j := 0) (k := 0) hS sz_25 rfl rfl rfl rfl (by simp)) ?_
    clear hS
    rintro _ w hS; (try simp only [List.nil_append, List.cons_append, List.set] at hS)
    refine ⟨no_need (by kernel_rfl), ?_⟩
    refine al_done (by kernel_rfl) ?_
    refine pq_cut _ (by exact ⟨(cs.length : Int), G, oq, c_oq, oA', cA', rfl, by rw [hpv], Le.refl _, by rw [hpv]; unfold MkS addI; simpa [cellsV] using hS⟩) ((Sub.cons rfl (Sub.cons rfl (Sub.cons rfl (Sub.cons rfl Sub.nil)))))
 clear hS
 rintro e w ⟨x11, Gc, oC, cC, oA, cA, rfl, rfl, hcur, hS⟩
 unfold MkS at hS
 simp only [List.cons_append, List.nil_append] at hS
 refine cw_seq (cw_seq ?_)
 refine al_start' hS (hS.take 5) (by kernel_rfl) rfl (fun w hS hT => ?_)
 refine al_take (i := 0) rfl (by kernel_rfl) (by kernel_rfl) (by kernel_rfl) rfl (fun _ _ _ h => h) (op_move rfl) rfl (al_take (i := 1) rfl (by kernel_rfl) (by kernel_rfl) (by kernel_rfl) rfl (fun _ _ _ h => h) (op_nilCheck rfl) rfl (al_take (i := 2) rfl (by kernel_rfl) (by kernel_rfl) (by kernel_rfl) rfl (fun _ _ _ h => h) (op_fieldAddr fld_96_0 rfl) rfl (al_load (i := 3) rfl (by kernel_rfl) (by kernel_rfl) (by kernel_rfl) rfl (fun _ _ _ h => h) (by exact op_load1 one_25 rfl (fun w hw => (hw.bcell (i := 0) rfl).trans rfl)) rfl hT (al_take (i := 4) rfl (by kernel_rfl) (by kernel_rfl) (by kernel_rfl) rfl (fun _ _ _ h => h) (op_len sl_25 rfl rfl) rfl (al_take (i := 5) rfl (by kernel_rfl) (by kernel_rfl) (by kernel_rfl) rfl (fun _ _ _ h => h) (op_fieldAddr fld_28_2 rfl) rfl (al_load (i := 6) rfl (by kernel_rfl) (by kernel_rfl) (by kernel_rfl) rfl (fun _ _ _ h => h) (by exact op_load1 one_3 rfl (fun w hw => (hw.bcell (i := 4) rfl).trans rfl)) rfl hT (al_take (i := 7) rfl (by kernel_rfl) (by kernel_rfl) (by kernel_rfl) rfl (fun _ _ _ h => h) (op_gtr rfl rfl) rfl ?_)))))))
 refine al_done (by kernel_rfl) (pq_then ?_)
 refine cw_cond rfl (fun h74 => ?_) (fun h74 => ?_)
 ·
  try simp only [dqT, dqF, dq1, dq2, dq3, dq4, dq5] at h74
  refine cw_seq (cw_region (ol_load rfl (op_loadN agg_28 rfl (by rfl) (fun w hw k u hk => (hw.bcell (i := 4) rfl).trans hk)) hS ?_))
  refine ol_step0  (op_storeN (j := 3) hS sz_28 rfl rfl rfl rfl rfl (by simp [Value.oneCell'])) ?_
  clear hS
  rintro _ w hS; (try simp only [List.nil_append, List.cons_append, List.set] at hS)
  refine ol_pure rfl (op_assign rfl) (ol_pure rfl (op_assign rfl) (ol_pure rfl (op_assign rfl) (ol_nil (pq_then (cw_ret (pq_ret ?_))))))
  refine retN4 rfl agg_28 rfl rfl rfl rfl (by rfl) (fun k u hk => (hS.bcell (i := 3) rfl).trans hk) ?_
  exfalso
  have hpless := hpo.less
  omega
 ·
  try simp only [dqT, dqF, dq1, dq2, dq3, dq4, dq5] at h74
  refine cw_skip (pq_then (cw_seq ?_))
  have hpless := hpo.less
  have hatp := hpo.atp
  obtain ⟨Ga, hla, hSa, hRA⟩ := SS.give' (putI t (cs, at_)).2.2 [_, _] EInt.mono hS (by decide) ((Rows.ints (fun x hx => by rcases hatp x hx with h9 | h9 <;> omega)).mono EInt.mono (fun b o hb => by cases hb)) rfl
  obtain ⟨Gb, hlb, hSb, hRC⟩ := SS.give' (putI t (cs, at_)).2.1 [_] ECell.mono hSa (by decide) (Rows.cells (SlR.bd hpo.slr (by omega))) rfl
  clear hS hSa
  have hS := SS.swap [_] hSb
  clear hSb
  simp only [List.nil_append, List.cons_append] at hS
  refine al_start' hS (hS.take 2) (by kernel_rfl) rfl (fun w hS hT => ?_)
  refine al_take (i := 0) rfl (by kernel_rfl) (by kernel_rfl) (by kernel_rfl) rfl (fun _ _ _ h => h) (op_move rfl) rfl (al_take (i := 1) rfl (by kernel_rfl) (by kernel_rfl) (by kernel_rfl) rfl (fun _ _ _ h => h) (op_nilCheck rfl) rfl (al_take (i := 2) rfl (by kernel_rfl) (by kernel_rfl) (by kernel_rfl) rfl (fun _ _ _ h => h) (op_fieldAddr fld_96_0 rfl) rfl (al_load (i := 3) rfl (by kernel_rfl) (by kernel_rfl) (by kernel_rfl) rfl (fun _ _ _ h => h) (by exact op_load1 one_25 rfl (fun w hw => (hw.bcell (i := 0) rfl).trans rfl)) rfl hT (al_take (i := 4) rfl (by kernel_rfl) (by kernel_rfl) (by kernel_rfl) rfl (fun _ _ _ h => h) (op_fieldAddr fld_28_1 rfl) rfl (al_load (i := 5) rfl (by kernel_rfl) (by kernel_rfl) (by kernel_rfl) rfl (fun _ _ _ h => h) (by exact op_load1 one_26 rfl (fun w hw => (hw.bcell (i := 1) rfl).trans rfl)) rfl hT (al_take (i := 6) rfl (by kernel_rfl) (by kernel_rfl) (by kernel_rfl) rfl (fun _ _ _ h => h) (op_fieldAddr fld_28_2 rfl) rfl (al_load (i := 7) rfl (by kernel_rfl) (by kernel_rfl) (by kernel_rfl) rfl (fun _ _ _ h => h) (by exact op_load1 one_3 rfl (fun w hw => (hw.bcell (i := 1) rfl).trans rfl)) rfl hT ?_)))))))
  refine al_take (i := 8) rfl (by kernel_rfl) (by kernel_rfl) (by kernel_rfl) rfl (fun _ _ _ h => h) (op_build (is := [0, 1, 2]) (xs := [.tmp 79, .tmp 81, .tmp 83]) (v := .agg #[.slice oC (putI t (cs, at_)).2.1.length cC, .slice ot tr.length ct, .int .i64 room]) rfl rfl (fun w => by kernel_rfl)) rfl (al_take (i := 9) rfl (by kernel_rfl) (by kernel_rfl) (by kernel_rfl) rfl (fun _ _ _ h => h) (op_move rfl) rfl (al_take (i := 10) rfl (by kernel_rfl) (by kernel_rfl) (by kernel_rfl) rfl (fun _ _ _ h => h) (op_move rfl) rfl (al_take (i := 11) rfl (by kernel_rfl) (by kernel_rfl) (by kernel_rfl) rfl (fun _ _ _ h => h) (op_nilCheck rfl) rfl (al_take (i := 12) rfl (by kernel_rfl) (by kernel_rfl) (by kernel_rfl) rfl (fun _ _ _ h => h) (op_fieldAddr fld_96_1 rfl) rfl (al_load (i := 13) rfl (by kernel_rfl) (by kernel_rfl) (by kernel_rfl) rfl (fun _ _ _ h => h) (by exact op_load1 one_26 rfl (fun w hw => (hw.bcell (i := 0) rfl).trans rfl)) rfl hT ?_)))))
  refine al_step0 (i := 14) rfl (by kernel_rfl) (op_storeN (j := 2) hS sz_28 rfl rfl rfl rfl rfl (by simp [Value.oneCell'])) ?_
  clear hS
  rintro _ w hS; (try simp only [List.nil_append, List.cons_append, List.set] at hS)
  have hT := hT.back hS (by first | exact Le.refl _ | assumption) (fun x hx => by try simp only [bkA, bkB, bkC, bkD, bkE] at hx; (rcases hx with rfl | rfl) <;> simp)
  refine ⟨fun _ _ => hT, ?_⟩
  refine al_take (i := 15) rfl (by kernel_rfl) (by kernel_rfl) (by kernel_rfl) rfl (fun _ _ _ h => h) (op_assign rfl) rfl (al_take (i := 16) rfl (by kernel_rfl) (by kernel_rfl) (by kernel_rfl) rfl (fun _ _ _ h => h) (op_assign rfl) rfl (al_take (i := 17) rfl (by kernel_rfl) (by kernel_rfl) (by kernel_rfl) rfl (fun _ _ _ h => h) (op_assign rfl) rfl (al_done (by kernel_rfl) (pq_then (cw_ret ?_)))))
  refine retN4 rfl agg_28 rfl rfl rfl rfl (by rfl) (fun k u hk => (hS.bcell (i := 2) rfl).trans hk) ?_
  exact hS.rt _ ⟨_, _, rfl, ⟨oC, cC, ot, ct, rfl, hRC, (h2.mono EInt.mono hcur).mono EInt.mono (hla.trans hlb)⟩, hRA.mono EInt.mono hlb⟩
end Go.Proofs.Ytnmkffkalnkbbaa.K
