/-
  Heaps: marks, what is undone, what is bound.
  No condition but the premises that each theorem names.
-/
import Derived.Test.YtnmkffkalnkbbaaGc3
import Derived.Test.YtnmkffkalnkbbaaHp3
import Derived.Test.YtnmkffkalnkbbaaPhe
namespace Go.Proofs.Ytnmkffkalnkbbaa.K
open Go Go.RowKit
set_option linter.unusedVariables false
set_option linter.unusedSimpArgs false

open Pl
theorem cellsV_at {cs : List Cell} {i : Nat} (h : i < cs.length) {r : Nat} (hr : r < 3) : (cellsV cs)[i * 3 + r]? = (cellV cs[i])[r]? := by
  have h1 : cs = cs.take i ++ cs[i] :: cs.drop (i + 1) := by rw [List.getElem_cons_drop, List.take_append_drop]
  have h2 : cellsV cs = cellsV (cs.take i) ++ (cellV cs[i] ++ cellsV (cs.drop (i + 1))) := by
    conv => lhs; rw [h1]
    rw [cellsV_app]
    rfl
  have h3 : (cellsV (cs.take i)).length = i * 3 := by rw [cellsV_len]; simp; omega
  rw [h2, List.getElem?_append_right (by omega), h3, show i * 3 + r - i * 3 = r from by omega, List.getElem?_append_left (by simpa [cellV] using hr)]
theorem cellsV_set {cs : List Cell} {i : Nat} (h : i < cs.length) (c : Cell) : (cellsV cs).take (i * 3) ++ cellV c ++ (cellsV cs).drop (i * 3 + 3) = cellsV (cs.set i c) := by
  have h1 : cs = cs.take i ++ cs[i] :: cs.drop (i + 1) := by rw [List.getElem_cons_drop, List.take_append_drop]
  have h2 : cellsV cs = cellsV (cs.take i) ++ (cellV cs[i] ++ cellsV (cs.drop (i + 1))) := by
    conv => lhs; rw [h1]
    rw [cellsV_app]
    rfl
  have h3 : (cellsV (cs.take i)).length = i * 3 := by rw [cellsV_len]; simp; omega
  have h4 : cs.set i c = cs.take i ++ c :: cs.drop (i + 1) := by rw [List.set_eq_take_append_cons_drop, if_pos h]
  rw [h4, cellsV_app, h2, List.take_left' h3, show i * 3 + 3 = i * 3 + 3 from rfl, ← List.append_assoc, List.drop_append, List.drop_eq_nil_of_le (by rw [List.length_append, h3]; simp [cellV]), List.nil_append, List.length_append, h3]
  simp [cellV, cellsV]
theorem RSl.cellsG {G : GH} {oa : Option Addr} {n c : Nat} {cs : List Cell} (h : RSl 3 ECell G (.slice oa n c) cs) : ∀ (k : Nat) (u : Value), (cellsV cs)[k]? = some u → oa.isSome = true ∧ gcell G (elA oa k) = some u := fun k u hu => by
  have hk : k < (cellsV cs).length := (List.getElem?_eq_some_iff.1 hu).1
  rw [cellsV_len] at hk
  have hi : k / 3 < cs.length := by omega
  have hd : k = k / 3 * 3 + k % 3 := by omega
  obtain ⟨h1, _, h3⟩ := h.cellAt hi
  rw [hd, cellsV_at hi (by omega)] at hu
  have := h3 _ u hu
  rw [elA_add, ← hd] at this
  exact ⟨h1, this⟩
theorem RSl.newsC {G : GH} {w : World} {oa : Option Addr} {n c : Nat} {cs : List Cell} (h : RSl 3 ECell G (.slice oa n c) cs) (hw : Holds G w) : ∀ (k : Nat) (u : Value), (cellsV cs)[k]? = some u → oa.isSome = true ∧ w.cell? (elA oa k) = some u := fun k u hu => by
  obtain ⟨h1, h2⟩ := h.cellsG k u hu
  exact ⟨h1, hw.cell h2⟩
theorem ones_c (cs : List Cell) : ∀ u ∈ cellsV cs, u.oneCell' = true := fun u hu => by
  obtain ⟨c, _, hc⟩ := List.mem_flatMap.1 hu
  simp only [cellV, List.mem_cons, List.not_mem_nil, or_false] at hc
  rcases hc with rfl | rfl | rfl <;> rfl
theorem refC_bd {y : Int} (h : -9223372036854775808 ≤ y ∧ y ≤ 9223372036854775807) : CellBd (refC y) := ⟨by simp [refC], h, by simp [refC]⟩
theorem bindC_bd {cs : List Cell} {x y : Int} (h : ∀ c ∈ cs, CellBd c) (hy : -9223372036854775808 ≤ y ∧ y ≤ 9223372036854775807) : ∀ c ∈ bindC cs x y, CellBd c := fun c hc => by
  rcases List.mem_or_eq_of_mem_set hc with hc | rfl
  · exact h c hc
  · exact refC_bd hy
theorem freeC_bd {cs : List Cell} : ∀ (l : List Int), (∀ c ∈ cs, CellBd c) → (∀ x ∈ l, -9223372036854775808 ≤ x ∧ x ≤ 9223372036854775807) → ∀ c ∈ freeC cs l, CellBd c := by
  intro l
  induction l generalizing cs with
  | nil => exact fun h _ => h
  | cons x l ih =>
    intro h hl
    unfold freeC
    rw [List.foldl_cons]
    exact ih (bindC_bd h (hl x (by simp))) (fun y hy => hl y (by simp [hy]))

set_option maxRecDepth 100000 in

theorem R08_Mark_c (G : GH) (w0 : World) (hG : Holds G w0) (hv : Value) (cs : List Cell) (tr : List Int) (room : Int) (hh : EHeap G hv cs tr room) (oR : Option Addr) (nR cR : Nat) :
   Calls Try.prog 30 #[hv, .slice oR nR cR] w0 (Sc w0 (.agg #[.int .i64 (cs.length : Nat), .int .i64 (tr.length : Nat), .slice oR nR cR])) := by
 have hh0 := hh
 obtain ⟨oc, cc, ot, ct, rfl, h1, h2⟩ := hh
 have hle := h1.le
 have hle2 := h2.le
 refine enter Try.func30 rfl (N := 13) rfl (Nat.le_of_ble_eq_true rfl) ?_
 have hS := SS.init hG
 refine cw_seq (cw_region ?_)
 refine ol_step rfl (op_box hS rfl rfl) ?_
 clear hS
 rintro _ w ⟨b2, rfl, hS⟩
 refine ol_step rfl (op_alloc hS el_46 rfl) ?_
 clear hS
 rintro _ w ⟨b4, rfl, hS⟩
 refine ol_nil (pq_then (cw_seq (cw_region (ol_pure rfl (op_fieldAddr fld_28_0 rfl) (ol_load rfl (op_load1 one_25 rfl (fun w hw => (hw.bcell (i := 1) rfl).trans rfl)) hS (ol_pure rfl (op_len sl_25 rfl rfl) (ol_pure rfl (op_fieldAddr fld_28_1 rfl) ?_)))))))
 refine ol_load rfl (op_load1 one_26 rfl (fun w hw => (hw.bcell (i := 1) rfl).trans rfl)) hS (ol_pure rfl (op_len sl_26 rfl rfl) (ol_pure rfl (op_move rfl) (ol_pure rfl (op_build (is := [0, 1, 2]) (xs := [.tmp 7, .tmp 10, .tmp 11]) (v := .agg #[.int .i64 (cs.length : Nat), .int .i64 (tr.length : Nat), .slice oR nR cR]) rfl rfl (fun w => by kernel_rfl)) ?_)))
 refine ol_step0  (op_storeN (j := 0) hS sz_46 rfl rfl rfl rfl rfl (by simp [Value.oneCell'])) ?_
 clear hS
 rintro _ w hS; (try simp only [List.nil_append, List.cons_append, List.set] at hS)
 refine ol_nil (pq_then (cw_ret ?_))
 refine retN rfl agg_46 rfl (by rfl) (fun k u hk => (hS.bcell (i := 0) rfl).trans hk) ?_
 exact hS.sc _
set_option maxRecDepth 100000 in
set_option maxHeartbeats 1000000 in

theorem R08_Undo_c (G : GH) (w0 : World) (hG : Holds G w0) (hv : Value) (cs : List Cell) (tr : List Int) (room : Int) (hh : EHeap G hv cs tr room) (a t : Nat) (oR : Option Addr) (nR cR : Nat) (ha : a ≤ cs.length) (ht : t ≤ tr.length) (htr : ∀ x ∈ tr, 0 ≤ x ∧ x < cs.length) (hn : cs.length ≤ 1000000) :
   Calls Try.prog 25 #[hv, .agg #[.int .i64 (a : Nat), .int .i64 (t : Nat), .slice oR nR cR]] w0 (Rt G w0 (fun G v => EHeap G v (undoC cs tr a t) (tr.take t) room)) := by
 have hh0 := hh
 obtain ⟨oc, cc, ot, ct, rfl, h1, h2⟩ := hh
 have hle := h1.le
 have hle2 := h2.le
 have hct := h2.len
 refine enter Try.func25 rfl (N := 45) rfl (Nat.le_of_ble_eq_true rfl) ?_
 have hS := SS.init hG
 refine cw_seq (cw_region ?_)
 refine ol_step rfl (op_box hS rfl rfl) ?_
 clear hS
 rintro _ w ⟨b2, rfl, hS⟩
 refine ol_step rfl (op_box hS rfl rfl) ?_
 clear hS
 rintro _ w ⟨b3, rfl, hS⟩
 refine ol_step rfl (op_alloc hS el_28 rfl) ?_
 clear hS
 rintro _ w ⟨b4, rfl, hS⟩
 refine ol_nil (pq_then (cw_seq (cw_region ?_)))
 refine ol_step rfl (op_buildSlice (el := 49) (is := []) (xs := []) (sz := 3) (cs := []) hS rfl rfl (fun w => by kernel_rfl) rfl (by decide)) ?_
 clear hS
 rintro _ w ⟨l7, rfl, hS⟩
 refine ol_pure rfl (op_fieldAddr fld_28_0 rfl) (ol_load rfl (op_load1 one_25 rfl (fun w hw => (hw.bcell (i := 3) rfl).trans rfl)) hS ?_)
 refine ol_step rfl (op_append (j := 0) (m := cs.length) (news := cellsV cs) hS sl_25 el_49 rfl rfl rfl rfl rfl (cellsV_len cs) (by decide) (h1.newsC hS.hold) (ones_c cs) (by omega) (by unfold maxLen; omega)) ?_
 clear hS
 rintro _ w ⟨oL, c_oL, rfl, hS⟩; (try simp only [List.nil_append, List.cons_append, List.set] at hS)
 rw [Nat.zero_add] at hS
 refine ol_pure rfl (op_assign rfl) (ol_nil (pq_then (cw_seq (cw_seq (cw_region (ol_pure rfl (op_fieldAddr fld_46_1 rfl) (ol_load rfl (op_load1 one_3 rfl (fun w hw => (hw.bcell (i := 2) rfl).trans rfl)) hS ?_)))))))
 refine ol_pure rfl (op_assign rfl) (ol_nil (pq_then (cw_block ?_)))
 refine cw_loop (fun e w n => ∃ (k : Nat) (oL : Option Addr) (l5 cL : Nat), e = [(2, .pointer (some ⟨b2, 0, none⟩)), (3, .pointer (some ⟨b3, 0, none⟩)), (4, .pointer (some ⟨b4, 0, none⟩)), (5, .slice oL l5 cL), (6, .int .i64 (k : Nat))] ∧ l5 = cs.length ∧ t ≤ k ∧ k ≤ tr.length ∧ n = tr.length - k ∧ SS G w0 G [.row oL cs.length cL 49 3 (cellsV (freeC cs ((tr.take k).drop t))), .blk b4 28 [.slice none 0 0, .slice none 0 0, .int .i64 0], .blk b3 46 [.int .i64 (a : Nat), .int .i64 (t : Nat), .slice oR nR cR], .blk b2 28 [.slice oc cs.length cc, .slice ot tr.length ct, .int .i64 room]] w) _ _ (by exact ⟨t, oL, 0 + cs.length, _, rfl, by omega, Nat.le_refl _, ht, rfl, by rw [List.drop_eq_nil_of_le (by simp; omega)]; exact hS⟩) ((Sub.cons rfl (Sub.cons rfl (Sub.cons rfl (Sub.cons rfl (Sub.cons rfl Sub.nil)))))) ?_
 clear hS
 rintro e w n ⟨k, oL, l5, cL, rfl, rfl, hk1, hk, rfl, hS⟩
 refine cw_seq (cw_seq (cw_region (ol_pure rfl (op_move rfl) (ol_pure rfl (op_fieldAddr fld_28_1 rfl) (ol_load rfl (op_load1 one_26 rfl (fun w hw => (hw.bcell (i := 3) rfl).trans rfl)) hS (ol_pure rfl (op_len sl_26 rfl rfl) (ol_pure rfl (op_lss rfl rfl) ?_)))))))
 refine ol_nil (pq_then ?_)
 refine cw_cond rfl (fun h17 => ?_) (fun h17 => ?_)
 ·
  try simp only [dqT, dqF, dq1, dq2, dq3, dq4, dq5] at h17
  have hlt : k < tr.length := by omega
  obtain ⟨hot, hcx, hbx⟩ := h2.int hlt
  have hrg := htr _ (List.getElem_mem hlt)
  obtain ⟨q, hq⟩ := Int.eq_ofNat_of_zero_le hrg.1
  rw [hq] at hcx hrg
  have hql : q < cs.length := by omega
  have hfl := freeC_len ((tr.take k).drop t) cs
  have hfd := freeC_drop (cs := cs) hk1 hlt
  rw [hq] at hfd
  have hoq := (hS.news (j := 0) rfl (q * 3) _ (List.getElem?_eq_getElem (by rw [cellsV_len, hfl]; omega))).1
  refine cw_skip (pq_then (cw_seq (cw_block ?_)))
  refine al_start' hS (hS.take 5) (by kernel_rfl) rfl (fun w hS hT => ?_)
  refine al_take (i := 0) rfl (by kernel_rfl) (by kernel_rfl) (by kernel_rfl) rfl (fun _ _ _ h => h) (op_move rfl) rfl (al_take (i := 1) rfl (by kernel_rfl) (by kernel_rfl) (by kernel_rfl) rfl (fun _ _ _ h => h) (op_fieldAddr fld_28_1 rfl) rfl (al_load (i := 2) rfl (by kernel_rfl) (by kernel_rfl) (by kernel_rfl) rfl (fun _ _ _ h => h) (by exact op_load1 one_26 rfl (fun w hw => (hw.bcell (i := 3) rfl).trans rfl)) rfl hT (al_take (i := 3) rfl (by kernel_rfl) (by kernel_rfl) (by kernel_rfl) rfl (fun _ _ _ h => h) (op_move rfl) rfl (al_take (i := 4) rfl (by kernel_rfl) (by kernel_rfl) (by kernel_rfl) rfl (fun _ _ _ h => h) (op_indexN sl_26 rfl rfl (by omega) hot) rfl (al_load (i := 5) rfl (by kernel_rfl) (by kernel_rfl) (by kernel_rfl) rfl (fun _ _ _ h => h) (by exact op_load1 one_3 rfl (fun w hw => hw.gcell hcx)) rfl hT (al_take (i := 6) rfl (by kernel_rfl) (by kernel_rfl) (by kernel_rfl) rfl (fun _ _ _ h => h) (op_fieldAddr fld_28_1 rfl) rfl (al_load (i := 7) rfl (by kernel_rfl) (by kernel_rfl) (by kernel_rfl) rfl (fun _ _ _ h => h) (by exact op_load1 one_26 rfl (fun w hw => (hw.bcell (i := 3) rfl).trans rfl)) rfl hT ?_)))))))
  refine al_take (i := 8) rfl (by kernel_rfl) (by kernel_rfl) (by kernel_rfl) rfl (fun _ _ _ h => h) (op_move rfl) rfl (al_take (i := 9) rfl (by kernel_rfl) (by kernel_rfl) (by kernel_rfl) rfl (fun _ _ _ h => h) (op_indexN sl_26 rfl rfl (by omega) hot) rfl (al_load (i := 10) rfl (by kernel_rfl) (by kernel_rfl) (by kernel_rfl) rfl (fun _ _ _ h => h) (by exact op_load1 one_3 rfl (fun w hw => hw.gcell hcx)) rfl hT (al_take (i := 11) rfl (by kernel_rfl) (by kernel_rfl) (by kernel_rfl) rfl (fun _ _ _ h => h) (op_build (is := [0, 2]) (xs := [.const (.int .i64 (1)), .tmp 30]) (v := .agg #[.int .i64 1, .string ByteArray.empty, .int .i64 (q : Nat)]) rfl rfl (fun w => by kernel_rfl)) rfl (al_take (i := 12) rfl (by kernel_rfl) (by kernel_rfl) (by kernel_rfl) rfl (fun _ _ _ h => h) (op_indexN (n := cs.length) sl_25 rfl rfl hql hoq) rfl ?_))))
  refine al_step0 (i := 13) rfl (by kernel_rfl) (op_storeRN (j := 0) (k := q * 3) hS sz_49 rfl rfl rfl rfl (by rw [cellsV_len, hfl]; omega) (by decide) (by simp [Value.oneCell'])) ?_
  clear hS
  rintro _ w hS; (try simp only [List.nil_append, List.cons_append, List.set] at hS)
  rw [show [Value.int .i64 1, .string ByteArray.empty, .int .i64 (q : Nat)] = cellV (refC (q : Int)) from rfl, cellsV_set (by rw [hfl]; exact hql)] at hS
  refine ⟨no_need (by kernel_rfl), ?_⟩
  refine al_done (by kernel_rfl) (pq_in_normal (pq_then (cw_region (ol_pure rfl (op_move rfl) (ol_pure rfl (op_add rfl rfl (by omega) (by omega)) (ol_pure rfl (op_assign rfl) (ol_nil ?_)))))))
  refine pq_loop _ _ (by exact ⟨k + 1, oL, _, cL, rfl, rfl, by omega, by omega, rfl, by rw [hfd]; exact hS⟩) ((Sub.cons rfl (Sub.cons rfl (Sub.cons rfl (Sub.cons rfl (Sub.cons rfl Sub.nil)))))) (by omega)
 ·
  try simp only [dqT, dqF, dq1, dq2, dq3, dq4, dq5] at h17
  refine cw_exit (pq_exit (pq_exit (pq_in_exit (pq_then (cw_seq ?_)))))
  obtain rfl : k = tr.length := by omega
  rw [List.take_length] at hS
  have hfl := freeC_len (tr.drop t) cs
  obtain ⟨Gx, hlx, hSx, hRC⟩ := SS.give' (freeC cs (tr.drop t)) [] ECell.mono hS (by decide) (Rows.cells (freeC_bd _ h1.cellBd (fun x hx => by have := htr x (List.mem_of_mem_drop hx); omega))) hfl.symm
  clear hS
  have hS := hSx
  clear hSx
  simp only [List.nil_append] at hS
  have hRa := hRC.pre ha
  refine al_start' hS (hS.take 3) (by kernel_rfl) rfl (fun w hS hT => ?_)
  refine al_take (i := 0) rfl (by kernel_rfl) (by kernel_rfl) (by kernel_rfl) rfl (fun _ _ _ h => h) (op_move rfl) rfl (al_take (i := 1) rfl (by kernel_rfl) (by kernel_rfl) (by kernel_rfl) rfl (fun _ _ _ h => h) (op_fieldAddr fld_46_0 rfl) rfl (al_load (i := 2) rfl (by kernel_rfl) (by kernel_rfl) (by kernel_rfl) rfl (fun _ _ _ h => h) (by exact op_load1 one_3 rfl (fun w hw => (hw.bcell (i := 1) rfl).trans rfl)) rfl hT (al_take (i := 3) rfl (by kernel_rfl) (by kernel_rfl) (by kernel_rfl) rfl (fun _ _ _ h => h) (op_sliceP (c := cL) (h := a) sl_25 rfl rfl (by have := hRC.len; omega)) rfl (al_take (i := 4) rfl (by kernel_rfl) (by kernel_rfl) (by kernel_rfl) rfl (fun _ _ _ h => h) (op_fieldAddr fld_28_1 rfl) rfl (al_load (i := 5) rfl (by kernel_rfl) (by kernel_rfl) (by kernel_rfl) rfl (fun _ _ _ h => h) (by exact op_load1 one_26 rfl (fun w hw => (hw.bcell (i := 2) rfl).trans rfl)) rfl hT (al_take (i := 6) rfl (by kernel_rfl) (by kernel_rfl) (by kernel_rfl) rfl (fun _ _ _ h => h) (op_fieldAddr fld_46_1 rfl) rfl (al_load (i := 7) rfl (by kernel_rfl) (by kernel_rfl) (by kernel_rfl) rfl (fun _ _ _ h => h) (by exact op_load1 one_3 rfl (fun w hw => (hw.bcell (i := 1) rfl).trans rfl)) rfl hT ?_)))))))
  refine al_take (i := 8) rfl (by kernel_rfl) (by kernel_rfl) (by kernel_rfl) rfl (fun _ _ _ h => h) (op_sliceP (c := ct) (h := t) sl_26 rfl rfl (by omega)) rfl (al_take (i := 9) rfl (by kernel_rfl) (by kernel_rfl) (by kernel_rfl) rfl (fun _ _ _ h => h) (op_fieldAddr fld_28_2 rfl) rfl (al_load (i := 10) rfl (by kernel_rfl) (by kernel_rfl) (by kernel_rfl) rfl (fun _ _ _ h => h) (by exact op_load1 one_3 rfl (fun w hw => (hw.bcell (i := 2) rfl).trans rfl)) rfl hT (al_take (i := 11) rfl (by kernel_rfl) (by kernel_rfl) (by kernel_rfl) rfl (fun _ _ _ h => h) (op_build (is := [0, 1, 2]) (xs := [.tmp 36, .tmp 41, .tmp 43]) (v := .agg #[.slice oL a cL, .slice ot t ct, .int .i64 room]) rfl rfl (fun w => by kernel_rfl)) rfl ?_)))
  refine al_step0 (i := 12) rfl (by kernel_rfl) (op_storeN (j := 0) hS sz_28 rfl rfl rfl rfl rfl (by simp [Value.oneCell'])) ?_
  clear hS
  rintro _ w hS; (try simp only [List.nil_append, List.cons_append, List.set] at hS)
  refine ⟨no_need (by kernel_rfl), ?_⟩
  refine al_done (by kernel_rfl) (pq_then (cw_ret ?_))
  refine retN rfl agg_28 rfl (by rfl) (fun k u hk => (hS.bcell (i := 0) rfl).trans hk) ?_
  have hal : (undoC cs tr a t).length = a := by unfold undoC; simp [hfl]; omega
  have htl : (tr.take t).length = t := by simp; omega
  exact hS.rt _ ⟨oL, cL, ot, ct, by rw [hal, htl], by rw [hal]; exact hRa, by rw [htl]; exact (h2.mono EInt.mono hlx).pre ht⟩
set_option maxRecDepth 100000 in
set_option maxHeartbeats 1000000 in

theorem R08_Bind_c (G : GH) (w0 : World) (hG : Holds G w0) (hv : Value) (cs : List Cell) (tr : List Int) (room : Int) (hh : EHeap G hv cs tr room) (x y : Int) (hx : 0 ≤ x) (hx1 : x < cs.length) (hy : 0 ≤ y) (hy1 : y < cs.length) (hn : cs.length ≤ 1000000) (htn : tr.length ≤ 100000000) :
   Calls Try.prog 55 #[hv, .int .i64 x, .int .i64 y] w0 (Rt G w0 (fun G v => EHeap G v (bindC cs x y) (tr ++ [x]) room)) := by
 have hh0 := hh
 obtain ⟨oc, cc, ot, ct, rfl, h1, h2⟩ := hh
 have hle := h1.le
 have hle2 := h2.le
 obtain ⟨q, rfl⟩ := Int.eq_ofNat_of_zero_le hx
 have hql : q < cs.length := by omega
 refine enter Try.func55 rfl (N := 31) rfl (Nat.le_of_ble_eq_true rfl) ?_
 have hS := SS.init hG
 refine cw_seq (cw_region ?_)
 refine ol_step rfl (op_box hS rfl rfl) ?_
 clear hS
 rintro _ w ⟨b2, rfl, hS⟩
 refine ol_step rfl (op_alloc hS el_28 rfl) ?_
 clear hS
 rintro _ w ⟨b4, rfl, hS⟩
 refine ol_nil (pq_then (cw_seq (cw_region ?_)))
 refine ol_step rfl (op_buildSlice (el := 49) (is := []) (xs := []) (sz := 3) (cs := []) hS rfl rfl (fun w => by kernel_rfl) rfl (by decide)) ?_
 clear hS
 rintro _ w ⟨l7, rfl, hS⟩
 refine ol_pure rfl (op_fieldAddr fld_28_0 rfl) (ol_load rfl (op_load1 one_25 rfl (fun w hw => (hw.bcell (i := 2) rfl).trans rfl)) hS ?_)
 refine ol_step rfl (op_append (j := 0) (m := cs.length) (news := cellsV cs) hS sl_25 el_49 rfl rfl rfl rfl rfl (cellsV_len cs) (by decide) (h1.newsC hS.hold) (ones_c cs) (by omega) (by unfold maxLen; omega)) ?_
 clear hS
 rintro _ w ⟨oL, c_oL, rfl, hS⟩; (try simp only [List.nil_append, List.cons_append, List.set] at hS)
 rw [Nat.zero_add] at hS
 have hoq := (hS.news (j := 0) rfl (q * 3) _ (List.getElem?_eq_getElem (by rw [cellsV_len]; omega))).1
 refine ol_pure rfl (op_assign rfl) (ol_nil (pq_then (cw_seq (cw_region (ol_pure rfl (op_move rfl) (ol_pure rfl (op_move rfl) (ol_pure rfl (op_move rfl) ?_)))))))
 refine ol_pure rfl (op_build (is := [0, 2]) (xs := [.const (.int .i64 (1)), .tmp 15]) (v := .agg #[.int .i64 1, .string ByteArray.empty, .int .i64 y]) rfl rfl (fun w => by kernel_rfl)) (ol_pure rfl (op_indexN (n := 0 + cs.length) sl_25 rfl rfl (by omega) hoq) ?_)
 refine ol_step0  (op_storeRN (j := 0) (k := q * 3) hS sz_49 rfl rfl rfl rfl (by rw [cellsV_len]; omega) (by decide) (by simp [Value.oneCell'])) ?_
 clear hS
 rintro _ w hS; (try simp only [List.nil_append, List.cons_append, List.set] at hS)
 rw [show [Value.int .i64 1, .string ByteArray.empty, .int .i64 y] = cellV (refC y) from rfl, cellsV_set hql] at hS
 refine ol_nil (pq_then (cw_seq (cw_region ?_)))
 refine ol_step rfl (op_buildSlice (el := 3) (is := []) (xs := []) (sz := 1) (cs := []) hS rfl rfl (fun w => by kernel_rfl) rfl (by decide)) ?_
 clear hS
 rintro _ w ⟨t8, rfl, hS⟩
 refine ol_pure rfl (op_fieldAddr fld_28_1 rfl) (ol_load rfl (op_load1 one_26 rfl (fun w hw => (hw.bcell (i := 3) rfl).trans rfl)) hS ?_)
 refine ol_step rfl (op_append (j := 0) (m := tr.length) (news := tr.map (Value.int .i64)) hS sl_26 el_3 rfl rfl rfl rfl rfl (by simp) (by decide) (h2.newsI hS.hold) (ones_i tr) (by omega) (by unfold maxLen; omega)) ?_
 clear hS
 rintro _ w ⟨oT, c_oT, rfl, hS⟩; (try simp only [List.nil_append, List.cons_append, List.set] at hS)
 refine ol_pure rfl (op_assign rfl) (ol_nil (pq_then (cw_seq (cw_region (ol_pure rfl (op_move rfl) (ol_pure rfl (op_move rfl) ?_))))))
 refine ol_step rfl (op_buildSlice (el := 3) (is := [0]) (xs := [.tmp 23]) (sz := 1) (cs := [.int .i64 (q : Nat)]) hS rfl rfl (fun w => by kernel_rfl) rfl (by decide)) ?_
 clear hS
 rintro _ w ⟨s24, rfl, hS⟩
 refine ol_step rfl (op_append (j := 1) hS sl_26 el_3 rfl rfl rfl rfl rfl rfl (by decide) (hS.news (j := 0) rfl) (by simp [Value.oneCell']) (by omega) (by unfold maxLen; omega)) ?_
 clear hS
 rintro _ w ⟨oU, c_oU, rfl, hS⟩; (try simp only [List.nil_append, List.cons_append, List.set] at hS); replace hS := SS.drop [] hS; (try simp only [List.nil_append, List.cons_append] at hS)
 refine ol_pure rfl (op_assign rfl) (ol_nil (pq_then (cw_seq (cw_region (ol_pure rfl (op_move rfl) (ol_pure rfl (op_move rfl) (ol_pure rfl (op_fieldAddr fld_28_2 rfl) ?_)))))))
 refine ol_load rfl (op_load1 one_3 rfl (fun w hw => (hw.bcell (i := 3) rfl).trans rfl)) hS (ol_pure rfl (op_build (is := [0, 1, 2]) (xs := [.tmp 26, .tmp 27, .tmp 29]) (v := .agg #[.slice oL (0 + cs.length) c_oL, .slice oU (0 + tr.length + 1) c_oU, .int .i64 room]) rfl rfl (fun w => by kernel_rfl)) ?_)
 refine ol_step0  (op_storeN (j := 2) hS sz_28 rfl rfl rfl rfl rfl (by simp [Value.oneCell'])) ?_
 clear hS
 rintro _ w hS; (try simp only [List.nil_append, List.cons_append, List.set] at hS)
 refine ol_nil (pq_then (cw_ret ?_))
 refine retN rfl agg_28 rfl (by rfl) (fun k u hk => (hS.bcell (i := 2) rfl).trans hk) ?_
 rw [show List.map (Value.int .i64) tr ++ [Value.int .i64 ((q : Nat) : Int)] = (tr ++ [((q : Nat) : Int)]).map (Value.int .i64) from by simp] at hS
 have htb : ∀ z ∈ tr ++ [((q : Nat) : Int)], -9223372036854775808 ≤ z ∧ z ≤ 9223372036854775807 := fun z hz => by
   rcases List.mem_append.1 hz with hz | hz
   · exact h2.bnd z hz
   · have : z = ((q : Nat) : Int) := by simpa using hz
     omega
 have hS3 := hS
 obtain ⟨Ga, hla, hSa, hRT⟩ := SS.give' (tr ++ [((q : Nat) : Int)]) [] EInt.mono hS3 (by decide) ((Rows.ints htb).mono EInt.mono (fun b o hb => by cases hb)) (by simp)
 obtain ⟨Gb, hlb, hSb, hRC⟩ := SS.give' (cs.set q (refC y)) [] ECell.mono hSa (by decide) (Rows.cells (bindC_bd (x := (q : Int)) h1.cellBd (by omega))) (by simp)
 exact hSb.rt _ ⟨oL, c_oL, oU, c_oU, by simp [bindC], by simpa [bindC] using hRC, by simpa using hRT.mono EInt.mono hlb⟩
end Go.Proofs.Ytnmkffkalnkbbaa.K
