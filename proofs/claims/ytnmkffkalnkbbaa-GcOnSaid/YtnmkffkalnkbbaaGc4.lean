/-
  A collection, of the program: its closures, and itself.
  No condition but the premises that each theorem names.
-/
import Derived.Test.YtnmkffkalnkbbaaGc3
namespace Go.Proofs.Ytnmkffkalnkbbaa.K
open Go Go.RowKit
set_option linter.unusedVariables false
set_option linter.unusedSimpArgs false

open Pl
def frG (w0 : World) (G : GH) : GH := fun b => if b < w0.heap.size then none else G b
theorem frLe {w0 : World} {G G' : GH} (h : Le G G') : Le (frG w0 G) (frG w0 G') := fun b o hb => by
  unfold frG at hb ⊢
  split at hb
  · cases hb
  · rename_i hn
    rw [if_neg hn]
    exact h b o hb
theorem frG_le {w0 : World} {G : GH} : Le (frG w0 G) G := fun b o hb => by
  unfold frG at hb
  split at hb
  · cases hb
  · exact hb
theorem frG_old {w0 : World} {G : GH} : ∀ b, b < w0.heap.size → frG w0 G b = none := fun b hb => by
  unfold frG
  rw [if_pos hb]
theorem SS.giveF {G0 G : GH} {w0 w : World} {M : List Ent} {α : Type} {E : ER α} (zs : List α) (pre : List Ent) {oa : Option Addr} {n c : Nat} {T : TypeId} {sz : Nat} {xs : List Value} (hE : EMono E) (h : SS G0 w0 G (pre ++ .row oa n c T sz xs :: M) w) (hsz : 0 < sz) (hr : Rows sz E (frG w0 G) xs zs) (hn : n = zs.length) :
    ∃ G', Le G G' ∧ SS G0 w0 G' (pre ++ M) w ∧ RSl sz E (frG w0 G') (.slice oa n c) zs := by
  obtain ⟨h1, h2, h3⟩ := h.row_len pre
  have hx : Ent.row oa n c T sz xs ∈ pre ++ Ent.row oa n c T sz xs :: M := by simp
  refine ⟨_, joinG_left _ _, h.pub pre, .of_cells hn h2 h3 (hr.mono hE (frLe (joinG_left _ _))) hsz (RowIn.full (h.own _ hx) fun b hb => ?_)⟩
  have hfp : (Ent.row oa n c T sz xs).fp = some b := hb
  have hnew := h.new _ hx b hfp
  simp [frG, joinG, hnew.1, oneG, hfp, Nat.not_lt.2 hnew.2]
theorem SS.giveC {G0 G : GH} {w0 w : World} {M : List Ent} (pre : List Ent) {b : Nat} {T : TypeId} {v : Value} (h : SS G0 w0 G (pre ++ .blk b T [v] :: M) w) :
    ∃ G', Le G G' ∧ SS G0 w0 G' (pre ++ M) w ∧ K.gcell G' ⟨b, 0, none⟩ = some v := by
  have hx : Ent.blk b T [v] ∈ pre ++ Ent.blk b T [v] :: M := by simp
  refine ⟨_, joinG_left _ _, h.pub pre, ?_⟩
  have hs : w.heap[b]? = some (.cells #[v] T (0, 0)) := h.own _ hx
  have h1 := (h.new _ hx b rfl).1
  unfold K.gcell joinG
  rw [h1]
  simp [oneG, Ent.fp, hs]
def staysB (to : List Int) (a : Int) : Bool := decide (0 ≤ a) && decide (a < to.length) && decide (0 ≤ valI to a)
def aheadI (to : List Int) (k : Nat) : List Int := (List.range (k + 1)).map fun i => ((someI (to.take i)).length : Int)
theorem aheadI_succ (to : List Int) (k : Nat) : aheadI to (k + 1) = aheadI to k ++ [((someI (to.take (k + 1))).length : Int)] := by
  unfold aheadI
  rw [List.range_succ, List.map_append]
  rfl
theorem aheadI_len (to : List Int) (k : Nat) : (aheadI to k).length = k + 1 := by simp [aheadI]
theorem aheadI_at {to : List Int} {k i : Nat} (h : i ≤ k) : (aheadI to k)[i]? = some ((someI (to.take i)).length : Int) := by
  unfold aheadI
  rw [List.getElem?_map, List.getElem?_range (by omega)]
  rfl
theorem toI_one {to : List Int} (h : ∀ x ∈ to, -1 ≤ x) (a : Int) : (if 0 ≤ a ∧ a < to.length then valI to a else -1) = if staysB to a = true then valI to a else -1 := by
  unfold staysB
  by_cases h1 : 0 ≤ a ∧ a < to.length
  · rw [if_pos h1]
    have h2 := h _ (valI_mem h1.1 h1.2)
    by_cases h3 : 0 ≤ valI to a
    · rw [if_pos (by simp [h1, h3])]
    · rw [if_neg (by simp [h3])]
      omega
  · rw [if_neg h1, if_neg (by simp only [Bool.and_eq_true, decide_eq_true_eq]; omega)]
theorem stays_at {to : List Int} {k : Nat} (h : k < to.length) : staysB to (k : Int) = decide (0 ≤ to[k]) := by
  unfold staysB
  rw [valI_at h]
  simp
  omega

set_option maxRecDepth 100000 in

theorem gc_Collect_1_c (G : GH) (w0 : World) (hG : Holds G w0) (bT : Nat) (oV : Option Addr) (cV : Nat) (to : List Int) (hcT : gcell G ⟨bT, 0, none⟩ = some (.slice oV to.length cV)) (hR : RSl 1 EInt G (.slice oV to.length cV) to) (a : Int) :
   Calls Try.prog 36 #[.int .i64 a, .pointer (some ⟨bT, 0, none⟩)] w0 (Sc w0 (.bool (staysB to a))) := by
 have hle := hR.le
 refine enter Try.func36 rfl (N := 19) rfl (Nat.le_of_ble_eq_true rfl) ?_
 have hS := SS.init hG
 refine cw_seq (cw_region (ol_pure rfl (op_assign rfl) (ol_nil (pq_then (cw_seq (cw_region (ol_pure rfl (op_move rfl) ?_)))))))
 refine ol_pure rfl (op_geq rfl rfl) (ol_pure rfl (op_move rfl) ?_)
 refine ol_split (fun h6 => ?_) (fun h6 => ?_)
 ·
  try simp only [dqT, dqF, dq1, dq2, dq3, dq4, dq5] at h6
  obtain ⟨k, rfl⟩ := Int.eq_ofNat_of_zero_le h6
  refine ol_guard_pure rfl rfl rfl (op_move rfl) (ol_guard_load rfl rfl rfl (op_load1 one_26 rfl (fun w hw => hw.gcell hcT)) hS (ol_guard_pure rfl rfl rfl (op_len sl_26 rfl rfl) (ol_guard_pure rfl rfl rfl (op_lss rfl rfl) (ol_pure rfl (op_pick_t rfl rfl) (ol_pure rfl (op_move rfl) ?_)))))
  refine ol_split (fun h12 => ?_) (fun h12 => ?_)
  ·
   try simp only [dqT, dqF, dq1, dq2, dq3, dq4, dq5] at h12
   have hlt : k < to.length := by omega
   obtain ⟨hoa, hc, hb⟩ := hR.int hlt
   have hsa := stays_at hlt
   refine ol_guard_load rfl rfl rfl (op_load1 one_26 rfl (fun w hw => hw.gcell hcT)) hS (ol_guard_pure rfl rfl rfl (op_move rfl) (ol_guard_pure rfl rfl rfl (op_indexN sl_26 rfl rfl (by omega) hoa) (ol_guard_load rfl rfl rfl (op_load1 one_3 rfl (fun w hw => hw.gcell hc)) hS (ol_guard_pure rfl rfl rfl (op_geq rfl rfl) (ol_pure rfl (op_pick_t rfl rfl) (ol_pure rfl (op_assign rfl) (ol_nil ?_)))))))
   refine pq_then (cw_ret (ret1 rfl rfl ?_))
   exact hS.sc_b hsa.symm
  ·
   try simp only [dqT, dqF, dq1, dq2, dq3, dq4, dq5] at h12
   refine ol_guard_no rfl rfl rfl rfl (ol_guard_no rfl rfl rfl rfl (ol_guard_no rfl rfl rfl rfl (ol_guard_no rfl rfl rfl rfl (ol_guard_no rfl rfl rfl rfl (ol_pure rfl (op_pick_f rfl rfl) (ol_pure rfl (op_assign rfl) (ol_nil ?_)))))))
   refine pq_then (cw_ret (ret1 rfl rfl ?_))
   exact hS.sc_b (by unfold staysB; rw [decide_eq_false h12]; simp)
 ·
  try simp only [dqT, dqF, dq1, dq2, dq3, dq4, dq5] at h6
  refine ol_guard_no rfl rfl rfl rfl (ol_guard_no rfl rfl rfl rfl (ol_guard_no rfl rfl rfl rfl (ol_guard_no rfl rfl rfl rfl (ol_pure rfl (op_pick_f rfl rfl) (ol_pure rfl (op_move rfl) (ol_guard_no rfl rfl rfl rfl (ol_guard_no rfl rfl rfl rfl ?_)))))))
  refine ol_guard_no rfl rfl rfl rfl (ol_guard_no rfl rfl rfl rfl (ol_guard_no rfl rfl rfl rfl (ol_pure rfl (op_pick_f rfl rfl) (ol_pure rfl (op_assign rfl) (ol_nil (pq_then (cw_ret ?_)))))))
  refine ret1 rfl rfl ?_
  exact hS.sc_b (by unfold staysB; rw [decide_eq_false h6]; rfl)
set_option maxRecDepth 100000 in

theorem gc_Collect_3_1_c (G : GH) (w0 : World) (hG : Holds G w0) (a : Int) :
   Calls Try.prog 40 #[.int .i64 a] w0 (Sc w0 (.bool (decide (a < 0)))) := by
 refine enter Try.func40 rfl (N := 5) rfl (Nat.le_of_ble_eq_true rfl) ?_
 have hS := SS.init hG
 refine cw_seq (cw_region (ol_pure rfl (op_assign rfl) (ol_nil (pq_then (cw_seq (cw_region (ol_pure rfl (op_move rfl) ?_)))))))
 refine ol_pure rfl (op_lss rfl rfl) (ol_pure rfl (op_assign rfl) (ol_nil (pq_then (cw_ret (ret1 rfl rfl ?_)))))
 exact hS.sc_b rfl
set_option maxRecDepth 100000 in
set_option maxHeartbeats 400000 in

theorem gc_Collect_2_c {G0 G : GH} {w0 w : World} {M : List Ent} (hS : SS G0 w0 G M w) (bT : Nat) (oV : Option Addr) (cV : Nat) (to : List Int) (hcT : gcell G ⟨bT, 0, none⟩ = some (.slice oV to.length cV)) (hR : RSl 1 EInt G (.slice oV to.length cV) to) (bS : Nat) (hcS : gcell G ⟨bS, 0, none⟩ = some (.func (.func 36) #[] #[.pointer (some ⟨bT, 0, none⟩)])) (hto : ∀ x ∈ to, -1 ≤ x) (oa : Option Addr) (c : Nat) (l : List Int) (h3 : RSl 1 EInt G (.slice oa l.length c) l) (hn : l.length ≤ 1000000)  :
   Calls Try.prog 37 #[.slice oa l.length c, .pointer (some ⟨bS, 0, none⟩), .pointer (some ⟨bT, 0, none⟩)] w (fun en w' => ∃ v, en = .returned v ∧ ∃ ob cb, v = .slice ob l.length cb ∧ SS G0 w0 G (.row ob l.length cb 3 1 ((toI to l).map (Value.int .i64)) :: M) w') := by
 have hle := hR.le
 replace hS := hS.nil 3 1
 refine enter Try.func37 rfl (N := 29) rfl (Nat.le_of_ble_eq_true rfl) ?_
 refine cw_seq (cw_region (ol_pure rfl (op_assign rfl) (ol_nil (pq_then (cw_seq (cw_region (ol_pure rfl (op_assign rfl) ?_)))))))
 refine ol_nil (pq_then (cw_seq (cw_seq (cw_region (ol_pure rfl (op_move rfl) (ol_pure rfl (op_len sl_26 rfl rfl) (ol_pure rfl (op_move rfl) ?_)))))))
 refine ol_nil (pq_then (cw_block ?_))
 refine cw_loop (fun e w n => ∃ (k : Nat) (o5 : Option Addr) (c5 : Nat), e = [(1, .pointer (some ⟨bS, 0, none⟩)), (2, .pointer (some ⟨bT, 0, none⟩)), (5, .slice o5 k c5), (8, .slice oa l.length c), (9, .int .i64 (l.length : Nat)), (10, .int .i64 (k : Nat))] ∧ k ≤ l.length ∧ n = l.length - k ∧ SS G0 w0 G (.row o5 k c5 3 1 ((toI to (l.take k)).map (Value.int .i64)) :: M) w) _ _ (by exact ⟨0, none, 0, rfl, Nat.zero_le _, rfl, by simpa [toI] using hS⟩) ((Sub.cons rfl (Sub.cons rfl (Sub.cons rfl (Sub.cons rfl (Sub.cons rfl (Sub.cons rfl Sub.nil))))))) ?_
 clear hS
 rintro e w n ⟨k, o5, c5, rfl, hk, rfl, hS⟩
 refine cw_seq (cw_region (ol_pure rfl (op_lss rfl rfl) (ol_nil (pq_then (cw_seq ?_)))))
 refine cw_cond rfl (fun h11 => ?_) (fun h11 => ?_)
 ·
  try simp only [dqT, dqF, dq1, dq2, dq3, dq4, dq5] at h11
  have hlt : k < l.length := by omega
  obtain ⟨hoa, hc, hb⟩ := h3.int hlt
  have hsu := toI_succ to hlt
  rw [toI_one hto] at hsu
  refine cw_skip (pq_then (cw_seq (cw_block (cw_seq (cw_region (ol_pure rfl (op_indexN sl_26 rfl rfl (by omega) hoa) (ol_load rfl (op_load1 one_3 rfl (fun w hw => hw.gcell hc)) hS ?_)))))))
  refine ol_pure rfl (op_assign rfl) (ol_nil (pq_then (cw_seq (cw_region (ol_load rfl (op_load1 one_76 rfl (fun w hw => hw.gcell hcS)) hS (ol_pure rfl (op_move rfl) ?_))))))
  refine ol_step rfl (op_callv_sc (fs := []) (cs := [.pointer (some ⟨bT, 0, none⟩)]) hS cf_36 rfl rfl (gc_Collect_1_c G _ hS.hold bT oV cV to hcT hR l[k])) ?_
  clear hS
  rintro _ w ⟨rfl, hS⟩
  refine ol_nil (pq_then ?_)
  refine cw_cond rfl (fun h16 => ?_) (fun h16 => ?_)
  ·
   try simp only [dqT, dqF, dq1, dq2, dq3, dq4, dq5] at h16
   have hst := h16
   unfold staysB at hst
   simp only [Bool.and_eq_true, decide_eq_true_eq] at hst
   obtain ⟨q, hq⟩ := Int.eq_ofNat_of_zero_le (a := l[k]) hst.1.1
   have hql : q < to.length := by omega
   obtain ⟨hoT, hcq, hbT⟩ := hR.int hql
   have hvq : valI to l[k] = to[q] := by rw [hq, valI_at hql]
   refine cw_region (ol_pure rfl (op_move rfl) (ol_load rfl (op_load1 one_26 rfl (fun w hw => hw.gcell hcT)) hS (ol_pure rfl (op_move rfl) (ol_pure rfl (op_indexAddr (i := l[k]) (n := to.length) sl_26 rfl rfl (by omega) (by omega) hoT) (ol_load rfl (op_load1 (v := .int .i64 to[q]) one_3 rfl (fun w hw => hw.gcell (by rw [hq]; exact hcq))) hS ?_)))))
   refine ol_step rfl (op_buildSlice (el := 3) (is := [0]) (xs := [.tmp 21]) (sz := 1) (cs := [.int .i64 to[q]]) hS rfl rfl (fun w => by kernel_rfl) rfl (by decide)) ?_
   clear hS
   rintro _ w ⟨s22, rfl, hS⟩
   refine ol_step rfl (op_append (j := 1) hS sl_26 el_3 rfl rfl rfl rfl rfl rfl (by decide) (hS.news (j := 0) rfl) (by simp [Value.oneCell']) (by omega) (by unfold maxLen; omega)) ?_
   clear hS
   rintro _ w ⟨oq, c_oq, rfl, hS⟩; (try simp only [List.nil_append, List.cons_append, List.set] at hS); replace hS := SS.drop [] hS; (try simp only [List.nil_append, List.cons_append] at hS)
   refine ol_pure rfl (op_assign rfl) (ol_nil (pq_in_normal (pq_then (cw_region (ol_pure rfl (op_add rfl rfl (by omega) (by omega)) (ol_pure rfl (op_move rfl) (ol_nil ?_)))))))
   refine pq_loop _ _ (by exact ⟨k + 1, oq, c_oq, rfl, by omega, rfl, by rw [hsu, if_pos h16, hvq]; simpa using hS⟩) ((Sub.cons rfl (Sub.cons rfl (Sub.cons rfl (Sub.cons rfl (Sub.cons rfl (Sub.cons rfl Sub.nil))))))) (by omega)
  ·
   try simp only [dqT, dqF, dq1, dq2, dq3, dq4, dq5] at h16
   refine cw_region (ol_pure rfl (op_move rfl) ?_)
   refine ol_step rfl (op_buildSlice (el := 3) (is := [0]) (xs := [.const (.int .i64 (-1))]) (sz := 1) (cs := [.int .i64 (-1)]) hS rfl rfl (fun w => by kernel_rfl) rfl (by decide)) ?_
   clear hS
   rintro _ w ⟨s25, rfl, hS⟩
   refine ol_step rfl (op_append (j := 1) hS sl_26 el_3 rfl rfl rfl rfl rfl rfl (by decide) (hS.news (j := 0) rfl) (by simp [Value.oneCell']) (by omega) (by unfold maxLen; omega)) ?_
   clear hS
   rintro _ w ⟨oq, c_oq, rfl, hS⟩; (try simp only [List.nil_append, List.cons_append, List.set] at hS); replace hS := SS.drop [] hS; (try simp only [List.nil_append, List.cons_append] at hS)
   refine ol_pure rfl (op_assign rfl) (ol_nil (pq_in_normal (pq_then (cw_region (ol_pure rfl (op_add rfl rfl (by omega) (by omega)) (ol_pure rfl (op_move rfl) (ol_nil ?_)))))))
   refine pq_loop _ _ (by exact ⟨k + 1, oq, c_oq, rfl, by omega, rfl, by rw [hsu, if_neg (by simp [h16])]; simpa using hS⟩) ((Sub.cons rfl (Sub.cons rfl (Sub.cons rfl (Sub.cons rfl (Sub.cons rfl (Sub.cons rfl Sub.nil))))))) (by omega)
 ·
  try simp only [dqT, dqF, dq1, dq2, dq3, dq4, dq5] at h11
  refine cw_exit (pq_exit (pq_exit (pq_in_exit (pq_then (cw_seq (cw_region (ol_pure rfl (op_move rfl) ?_)))))))
  refine ol_pure rfl (op_assign rfl) (ol_nil (pq_then (cw_ret (ret1 rfl rfl ?_))))
  obtain rfl : k = l.length := by omega
  rw [List.take_length] at hS
  exact ⟨_, rfl, o5, c5, rfl, hS⟩
set_option maxRecDepth 100000 in

theorem gc_Collect_3_c {G0 G : GH} {w0 w : World} {M : List Ent} (hS : SS G0 w0 G M w) (bT : Nat) (oV : Option Addr) (cV : Nat) (to : List Int) (hcT : gcell G ⟨bT, 0, none⟩ = some (.slice oV to.length cV)) (hR : RSl 1 EInt G (.slice oV to.length cV) to) (bS : Nat) (hcS : gcell G ⟨bS, 0, none⟩ = some (.func (.func 36) #[] #[.pointer (some ⟨bT, 0, none⟩)])) (bM : Nat) (hcM : gcell G ⟨bM, 0, none⟩ = some (.func (.func 37) #[] #[.pointer (some ⟨bS, 0, none⟩), .pointer (some ⟨bT, 0, none⟩)])) (hto : ∀ x ∈ to, -1 ≤ x) (oa : Option Addr) (c : Nat) (l : List Int) (h3 : RSl 1 EInt G (.slice oa l.length c) l) (hn : l.length ≤ 1000000)  :
   Calls Try.prog 38 #[.slice oa l.length c, .pointer (some ⟨bM, 0, none⟩)] w (fun en w' => ∃ v, en = .returned v ∧ ∃ ob cb, v = .slice ob (someI (toI to l)).length cb ∧ SS G0 w0 G (.row ob (someI (toI to l)).length cb 3 1 ((someI (toI to l)).map (Value.int .i64)) :: M) w') := by
 have hbd : ∀ x ∈ toI to l, -9223372036854775808 ≤ x ∧ x ≤ 9223372036854775807 := fun x hx => by
   obtain ⟨y, _, rfl⟩ := List.mem_map.1 hx
   split
   · rename_i hy
     exact hR.bnd _ (valI_mem hy.1 hy.2)
   · omega
 have htl := toI_len to l
 refine enter Try.func38 rfl (N := 8) rfl (Nat.le_of_ble_eq_true rfl) ?_
 refine cw_seq (cw_region (ol_pure rfl (op_assign rfl) (ol_nil (pq_then (cw_seq (cw_region (ol_load rfl (op_load1 one_77 rfl (fun w hw => hw.gcell hcM)) hS ?_)))))))
 refine ol_pure rfl (op_move rfl) ?_
 refine ol_step rfl (op_callv (fs := []) (cs := [.pointer (some ⟨bS, 0, none⟩), .pointer (some ⟨bT, 0, none⟩)]) cf_37 rfl rfl (gc_Collect_2_c hS bT oV cV to hcT hR bS hcS hto oa c l h3 hn)) ?_
 clear hS
 rintro _ w ⟨o6, c6, rfl, hS⟩
 rw [← htl] at hS
 refine ol_step rfl (op_callu cf_39 (by show some [Value.slice o6 l.length c6, _] = some [Value.slice o6 (toI to l).length c6, _]; rw [htl]) (slices_DeleteFunc_c hS hbd (fun x => decide (x < 0)) (someI (toI to l)) (by unfold someI; congr 1; funext x; by_cases hx : x < 0 <;> simp [hx] <;> omega) 40 [] cf_40 (fun ys w1 hw x _ => gc_Collect_3_1_c G w1 hw.hold x))) ?_
 clear hS
 rintro _ w ⟨rfl, hS⟩
 refine ol_pure rfl (op_assign rfl) (ol_nil (pq_then (cw_ret (ret1 rfl rfl ?_))))
 exact ⟨_, rfl, o6, c6, rfl, hS⟩
set_option maxRecDepth 100000 in

theorem heap_New_c (G : GH) (w0 : World) (hG : Holds G w0) (room : Int) (h0 : 1 ≤ room) (h1 : room ≤ 4096) :
   Calls Try.prog 41 #[.int .i64 room] w0 (Sc w0 (.agg #[.slice none 0 0, .slice none 0 0, .int .i64 room])) := by
 refine enter Try.func41 rfl (N := 12) rfl (Nat.le_of_ble_eq_true rfl) ?_
 have hS := SS.init hG
 refine cw_seq (cw_region ?_)
 refine ol_step rfl (op_alloc hS el_28 rfl) ?_
 clear hS
 rintro _ w ⟨b2, rfl, hS⟩
 refine ol_nil (pq_then (cw_seq (cw_seq (cw_region (ol_pure rfl (op_move rfl) (ol_pure rfl (op_lss rfl rfl) (ol_pure rfl (op_move rfl) ?_)))))))
 refine ol_split (fun h5 => ?_) (fun h5 => ?_)
 ·
  try simp only [dqT, dqF, dq1, dq2, dq3, dq4, dq5] at h5
  refine ol_guard_no rfl rfl rfl rfl (ol_guard_no rfl rfl rfl rfl (ol_pure rfl (op_pick_t rfl rfl) (ol_nil (pq_then (cw_cond_t rfl (cw_seq (cw_region ?_)))))))
  refine ol_pure rfl (op_build (is := []) (xs := []) (v := .agg #[.slice none 0 0, .slice none 0 0, .int .i64 0]) rfl rfl (fun w => by kernel_rfl)) ?_
  refine ol_step0  (op_storeN (j := 0) hS sz_28 rfl rfl rfl rfl rfl (by simp [Value.oneCell'])) ?_
  clear hS
  rintro _ w hS; (try simp only [List.nil_append, List.cons_append, List.set] at hS)
  refine ol_nil (pq_then (cw_ret (pq_ret ?_)))
  refine retN rfl agg_28 rfl (by rfl) (fun k u hk => (hS.bcell (i := 0) rfl).trans hk) ?_
  exfalso
  first | omega | (simp at h8; omega)
 ·
  try simp only [dqT, dqF, dq1, dq2, dq3, dq4, dq5] at h5
  refine ol_guard_pure rfl rfl rfl (op_move rfl) (ol_guard_pure rfl rfl rfl (op_gtr rfl rfl) (ol_pure rfl (op_pick_f rfl rfl) (ol_nil (pq_then ?_))))
  refine cw_cond rfl (fun h8 => ?_) (fun h8 => ?_)
  ·
   try simp only [dqT, dqF, dq1, dq2, dq3, dq4, dq5] at h8
   refine cw_seq (cw_region (ol_pure rfl (op_build (is := []) (xs := []) (v := .agg #[.slice none 0 0, .slice none 0 0, .int .i64 0]) rfl rfl (fun w => by kernel_rfl)) ?_))
   refine ol_step0  (op_storeN (j := 0) hS sz_28 rfl rfl rfl rfl rfl (by simp [Value.oneCell'])) ?_
   clear hS
   rintro _ w hS; (try simp only [List.nil_append, List.cons_append, List.set] at hS)
   refine ol_nil (pq_then (cw_ret (pq_ret ?_)))
   refine retN rfl agg_28 rfl (by rfl) (fun k u hk => (hS.bcell (i := 0) rfl).trans hk) ?_
   exfalso
   first | omega | (simp at h8; omega)
  ·
   try simp only [dqT, dqF, dq1, dq2, dq3, dq4, dq5] at h8
   refine cw_skip (pq_then (cw_seq (cw_region (ol_pure rfl (op_move rfl) (ol_pure rfl (op_build (is := [2]) (xs := [.tmp 10]) (v := .agg #[.slice none 0 0, .slice none 0 0, .int .i64 room]) rfl rfl (fun w => by kernel_rfl)) ?_)))))
   refine ol_step0  (op_storeN (j := 0) hS sz_28 rfl rfl rfl rfl rfl (by simp [Value.oneCell'])) ?_
   clear hS
   rintro _ w hS; (try simp only [List.nil_append, List.cons_append, List.set] at hS)
   refine ol_nil (pq_then (cw_ret ?_))
   refine retN rfl agg_28 rfl (by rfl) (fun k u hk => (hS.bcell (i := 0) rfl).trans hk) ?_
   exact hS.sc _
set_option maxRecDepth 100000 in

theorem R08_New_c (G : GH) (w0 : World) (hG : Holds G w0) (room : Int) (h0 : 1 ≤ room) (h1 : room ≤ 4096) :
   Calls Try.prog 29 #[.int .i64 room] w0 (Sc w0 (.agg #[.slice none 0 0, .slice none 0 0, .int .i64 room])) := by
 refine enter Try.func29 rfl (N := 12) rfl (Nat.le_of_ble_eq_true rfl) ?_
 have hS := SS.init hG
 refine cw_seq (cw_region ?_)
 refine ol_step rfl (op_alloc hS el_28 rfl) ?_
 clear hS
 rintro _ w ⟨b2, rfl, hS⟩
 refine ol_nil (pq_then (cw_seq (cw_seq (cw_region (ol_pure rfl (op_move rfl) (ol_pure rfl (op_lss rfl rfl) (ol_pure rfl (op_move rfl) ?_)))))))
 refine ol_split (fun h5 => ?_) (fun h5 => ?_)
 ·
  try simp only [dqT, dqF, dq1, dq2, dq3, dq4, dq5] at h5
  refine ol_guard_no rfl rfl rfl rfl (ol_guard_no rfl rfl rfl rfl (ol_pure rfl (op_pick_t rfl rfl) (ol_nil (pq_then (cw_cond_t rfl (cw_seq (cw_region ?_)))))))
  refine ol_pure rfl (op_build (is := []) (xs := []) (v := .agg #[.slice none 0 0, .slice none 0 0, .int .i64 0]) rfl rfl (fun w => by kernel_rfl)) ?_
  refine ol_step0  (op_storeN (j := 0) hS sz_28 rfl rfl rfl rfl rfl (by simp [Value.oneCell'])) ?_
  clear hS
  rintro _ w hS; (try simp only [List.nil_append, List.cons_append, List.set] at hS)
  refine ol_nil (pq_then (cw_ret (pq_ret ?_)))
  refine retN rfl agg_28 rfl (by rfl) (fun k u hk => (hS.bcell (i := 0) rfl).trans hk) ?_
  exfalso
  first | omega | (simp at h8; omega)
 ·
  try simp only [dqT, dqF, dq1, dq2, dq3, dq4, dq5] at h5
  refine ol_guard_pure rfl rfl rfl (op_move rfl) (ol_guard_pure rfl rfl rfl (op_gtr rfl rfl) (ol_pure rfl (op_pick_f rfl rfl) (ol_nil (pq_then ?_))))
  refine cw_cond rfl (fun h8 => ?_) (fun h8 => ?_)
  ·
   try simp only [dqT, dqF, dq1, dq2, dq3, dq4, dq5] at h8
   refine cw_seq (cw_region (ol_pure rfl (op_build (is := []) (xs := []) (v := .agg #[.slice none 0 0, .slice none 0 0, .int .i64 0]) rfl rfl (fun w => by kernel_rfl)) ?_))
   refine ol_step0  (op_storeN (j := 0) hS sz_28 rfl rfl rfl rfl rfl (by simp [Value.oneCell'])) ?_
   clear hS
   rintro _ w hS; (try simp only [List.nil_append, List.cons_append, List.set] at hS)
   refine ol_nil (pq_then (cw_ret (pq_ret ?_)))
   refine retN rfl agg_28 rfl (by rfl) (fun k u hk => (hS.bcell (i := 0) rfl).trans hk) ?_
   exfalso
   first | omega | (simp at h8; omega)
  ·
   try simp only [dqT, dqF, dq1, dq2, dq3, dq4, dq5] at h8
   refine cw_skip (pq_then (cw_seq (cw_region (ol_pure rfl (op_move rfl) (ol_pure rfl (op_build (is := [2]) (xs := [.tmp 10]) (v := .agg #[.slice none 0 0, .slice none 0 0, .int .i64 room]) rfl rfl (fun w => by kernel_rfl)) ?_)))))
   refine ol_step0  (op_storeN (j := 0) hS sz_28 rfl rfl rfl rfl rfl (by simp [Value.oneCell'])) ?_
   clear hS
   rintro _ w hS; (try simp only [List.nil_append, List.cons_append, List.set] at hS)
   refine ol_nil (pq_then (cw_ret ?_))
   refine retN rfl agg_28 rfl (by rfl) (fun k u hk => (hS.bcell (i := 0) rfl).trans hk) ?_
   exact hS.sc _
set_option maxRecDepth 100000 in
set_option maxHeartbeats 4000000 in

theorem gc_Collect_c (G : GH) (w0 : World) (hG : Holds G w0) (hv : Value) (cs : List Cell) (tr : List Int) (room : Int) (hh : EHeap G hv cs tr room) (hs : ShOk cs) (hn : cs.length ≤ 1000000) (u : Value) (roots : List Int) (h3 : RSl 1 EInt G u roots) (u3 : Value) (ms : List Mk) (h4 : RSl 3 EMk G u3 ms) (hrl : roots.length ≤ 1000) (hml : ms.length ≤ 100) (hmr : ∀ m ∈ ms, m.roots.length ≤ 1000) (hmk : ∀ m ∈ ms, MkOk cs.length tr.length m) (htn : tr.length ≤ 1000000) (hr1 : 1 ≤ room) (hr2 : room ≤ 4096)  :
   Calls Try.prog 16 #[hv, u, u3] w0 (Rt noG w0 (ColR (movedI (liveB cs (allI roots ms))) tr roots cs ms room)) := by
 have hh0 := hh
 obtain ⟨oc, cc, ot, ct, rfl, h1, h2⟩ := hh
 have hle := h1.le
 have hle2 := h2.le
 have hct := h2.len
 obtain ⟨oa, ca, rfl, hla, hma⟩ := h3.elim
 obtain ⟨om, cm, rfl, hlm, hmm⟩ := h4.elim
 refine enter Try.func16 rfl (N := 110) rfl (Nat.le_of_ble_eq_true rfl) ?_
 have hS := SS.init hG
 refine cw_seq (cw_region ?_)
 refine ol_step rfl (op_box hS rfl rfl) ?_
 clear hS
 rintro _ w ⟨b3, rfl, hS⟩
 refine ol_step rfl (op_alloc hS el_28 rfl) ?_
 clear hS
 rintro _ w ⟨b6, rfl, hS⟩
 refine ol_pure rfl (op_assign rfl) (ol_pure rfl (op_assign rfl) (ol_nil (pq_then (cw_seq (cw_region (ol_load rfl (op_loadN agg_28 rfl (by rfl) (fun w hw k u hk => (hw.bcell (i := 1) rfl).trans hk)) hS (ol_pure rfl (op_move rfl) ?_)))))))
 refine ol_pure rfl (op_move rfl) ?_
 refine ol_step rfl (op_call_fr hS cf_21 rfl (gc_Moved_c _ _ hS.hold _ cs tr room hh0 hs hn _ roots h3 _ ms h4 hrl hml hmr)) ?_
 clear hS
 rintro v23 w ⟨F23, G23, hR23, hF23, hf23, hl23, hS⟩
 have hto0 : (movedI (liveB cs (allI roots ms))).length = cs.length := by rw [movedI_len, liveB_len]
 have hto1 : ∀ x ∈ movedI (liveB cs (allI roots ms)), -1 ≤ x := fun x hx => (movedI_range x hx).1
 generalize hTe : (movedI (liveB cs (allI roots ms))) = to at hR23 hto0 hto1
 obtain ⟨oV, cV, rfl, hVc, _⟩ := hR23.elim
 replace hR23 := hR23.mono EInt.mono hf23
 have hto : to.length = cs.length := hto0
 have htb := hR23.bnd
 refine ol_step rfl (op_alloc hS el_26 rfl) ?_
 clear hS
 rintro _ w ⟨b9, rfl, hS⟩
 refine ol_step0  (op_storeB0 (j := 0) hS sz_26 rfl rfl rfl rfl) ?_
 clear hS
 rintro _ w hS; (try simp only [List.nil_append, List.cons_append, List.set] at hS)
 refine ol_nil (pq_then (cw_seq (cw_region (ol_pure rfl (op_makeFunc rfl rfl) ?_))))
 refine ol_step rfl (op_alloc hS el_76 rfl) ?_
 clear hS
 rintro _ w ⟨b10, rfl, hS⟩
 refine ol_step0  (op_storeB0 (j := 0) hS sz_76 rfl rfl rfl rfl) ?_
 clear hS
 rintro _ w hS; (try simp only [List.nil_append, List.cons_append, List.set] at hS)
 refine ol_nil (pq_then (cw_seq (cw_region (ol_pure rfl (op_makeFunc rfl rfl) ?_))))
 refine ol_step rfl (op_alloc hS el_77 rfl) ?_
 clear hS
 rintro _ w ⟨b11, rfl, hS⟩
 refine ol_step0  (op_storeB0 (j := 0) hS sz_77 rfl rfl rfl rfl) ?_
 clear hS
 rintro _ w hS; (try simp only [List.nil_append, List.cons_append, List.set] at hS)
 refine ol_nil (pq_then (cw_seq (cw_region (ol_pure rfl (op_makeFunc rfl rfl) (ol_pure rfl (op_assign rfl) (ol_nil (pq_then ?_)))))))
 refine cw_seq ?_
 obtain ⟨Ga, hla1, hS1, hg11⟩ := SS.giveC [] hS
 obtain ⟨Gb, hla2, hS2, hg10⟩ := SS.giveC [] hS1
 obtain ⟨Gx, hla3, hS3, hg9⟩ := SS.giveC [] hS2
 clear hS hS1 hS2
 have hS := hS3
 clear hS3
 simp only [List.nil_append] at hS
 replace hg11 := (hla2.trans hla3).cell hg11
 replace hg10 := hla3.cell hg10
 have hcur := ((hl23.trans hla1).trans hla2).trans hla3
 have hRV := hR23.mono EInt.mono ((hla1.trans hla2).trans hla3)
 refine cw_region (ol_pure rfl (op_fieldAddr fld_28_2 rfl) (ol_load rfl (op_load1 one_3 rfl (fun w hw => (hw.bcell (i := 1) rfl).trans rfl)) hS ?_))
 refine ol_step rfl (op_call_sc hS cf_41 rfl (heap_New_c _ _ hS.hold room hr1 hr2)) ?_
 clear hS
 rintro _ w ⟨rfl, hS⟩
 refine ol_step rfl (op_alloc hS el_28 rfl) ?_
 clear hS
 rintro _ w ⟨b13, rfl, hS⟩
 refine ol_step0  (op_storeN (j := 0) hS sz_28 rfl rfl rfl rfl rfl (by simp [Value.oneCell'])) ?_
 clear hS
 rintro _ w hS; (try simp only [List.nil_append, List.cons_append, List.set] at hS)
 refine ol_nil (pq_then (cw_seq (cw_region ?_)))
 refine ol_step rfl (op_buildSlice (el := 3) (is := [0]) (xs := [.const (.int .i64 (0))]) (sz := 1) (cs := [.int .i64 0]) hS rfl rfl (fun w => by kernel_rfl) rfl (by decide)) ?_
 clear hS
 rintro _ w ⟨ahead, rfl, hS⟩
 refine ol_pure rfl (op_assign rfl) (ol_nil (pq_then (cw_seq (cw_seq ?_))))
 replace hS := SS.ins [_, _] hS 49 3
 simp only [List.cons_append, List.nil_append] at hS
 refine cw_region (ol_pure rfl (op_fieldAddr fld_28_0 rfl) (ol_load rfl (op_load1 one_25 rfl (fun w hw => (hw.bcell (i := 4) rfl).trans rfl)) hS (ol_pure rfl (op_len sl_25 rfl rfl) (ol_pure rfl (op_move rfl) (ol_nil (pq_then (cw_block ?_)))))))
 refine cw_loop (fun e w n => ∃ (k : Nat) (oH oC : Option Addr) (cH cC : Nat), e = [(1, .slice oa roots.length ca), (2, .slice om ms.length cm), (3, .pointer (some ⟨b3, 0, none⟩)), (6, .pointer (some ⟨b6, 0, none⟩)), (9, .pointer (some ⟨b9, 0, none⟩)), (10, .pointer (some ⟨b10, 0, none⟩)), (11, .pointer (some ⟨b11, 0, none⟩)), (12, .func (.func 38) #[] #[.pointer (some ⟨b11, 0, none⟩)]), (13, .pointer (some ⟨b13, 0, none⟩)), (14, .slice oH (k + 1) cH), (33, .int .i64 (cs.length : Nat)), (34, .int .i64 (k : Nat))] ∧ k ≤ cs.length ∧ n = cs.length - k ∧ SS G w0 Gx [.row oH (k + 1) cH 3 1 ((aheadI to k).map (Value.int .i64)), .blk b13 28 [.slice oC (cellsC to (to.take k) (cs.take k)).length cC, .slice none 0 0, .int .i64 room], .row oC (cellsC to (to.take k) (cs.take k)).length cC 49 3 (cellsV (cellsC to (to.take k) (cs.take k))), .blk b6 28 [.slice none 0 0, .slice none 0 0, .int .i64 0], .blk b3 28 [.slice oc cs.length cc, .slice ot tr.length ct, .int .i64 room]] w) _ _ (by exact ⟨0, ahead, none, 1, 0, rfl, Nat.zero_le _, rfl, by simpa [cellsC, cellsV, aheadI, someI] using hS⟩) ((Sub.cons rfl (Sub.cons rfl (Sub.cons rfl (Sub.cons rfl (Sub.cons rfl (Sub.cons rfl (Sub.cons rfl (Sub.cons rfl (Sub.cons rfl (Sub.cons rfl (Sub.cons rfl (Sub.cons rfl Sub.nil))))))))))))) ?_
 clear hS
 rintro e w n ⟨k, oH, oC, cH, cC, rfl, hk, rfl, hS⟩
 refine cw_seq (cw_region (ol_pure rfl (op_lss rfl rfl) (ol_nil (pq_then (cw_seq ?_)))))
 refine cw_cond rfl (fun h35 => ?_) (fun h35 => ?_)
 ·
  try simp only [dqT, dqF, dq1, dq2, dq3, dq4, dq5] at h35
  have hlt : k < cs.length := by omega
  obtain ⟨hoc, hbd, hcells⟩ := (h1.mono ECell.mono hcur).cellAt hlt
  have htk : k < to.length := by omega
  have hcu := cellsM_succ hto hlt
  have hcle := cellsC_le (to := to) (ts := to.take k) (cs := cs.take k)
  simp only [List.length_take] at hcle
  have hso := hs k hlt
  unfold SlotOk at hso
  have hsa := stays_at htk
  refine cw_skip (pq_then (cw_seq (cw_block (cw_seq (cw_region (ol_pure rfl (op_move rfl) (ol_pure rfl (op_assign rfl) ?_)))))))
  refine ol_nil (pq_then ?_)
  refine cw_cut (fun e w => ∃ (oC : Option Addr) (cC : Nat), e = [(1, .slice oa roots.length ca), (2, .slice om ms.length cm), (3, .pointer (some ⟨b3, 0, none⟩)), (6, .pointer (some ⟨b6, 0, none⟩)), (9, .pointer (some ⟨b9, 0, none⟩)), (10, .pointer (some ⟨b10, 0, none⟩)), (11, .pointer (some ⟨b11, 0, none⟩)), (12, .func (.func 38) #[] #[.pointer (some ⟨b11, 0, none⟩)]), (13, .pointer (some ⟨b13, 0, none⟩)), (14, .slice oH (k + 1) cH), (33, .int .i64 (cs.length : Nat)), (34, .int .i64 (k : Nat))] ∧ SS G w0 Gx [.row oH (k + 1) cH 3 1 ((aheadI to k).map (Value.int .i64)), .blk b13 28 [.slice oC (cellsC to (to.take (k + 1)) (cs.take (k + 1))).length cC, .slice none 0 0, .int .i64 room], .row oC (cellsC to (to.take (k + 1)) (cs.take (k + 1))).length cC 49 3 (cellsV (cellsC to (to.take (k + 1)) (cs.take (k + 1)))), .blk b6 28 [.slice none 0 0, .slice none 0 0, .int .i64 0], .blk b3 28 [.slice oc cs.length cc, .slice ot tr.length ct, .int .i64 room]] w) ?_ ?_
  ·
   refine cw_seq (cw_region (ol_pure rfl (op_fieldAddr fld_28_0 rfl) (ol_load rfl (op_load1 one_25 rfl (fun w hw => (hw.bcell (i := 4) rfl).trans rfl)) hS (ol_pure rfl (op_move rfl) (ol_pure rfl (op_indexN sl_25 rfl rfl (by omega) hoc) (ol_load rfl (op_loadN agg_49 rfl (by rfl) (fun w hw k u hk => hw.gcell (hcells k u hk))) hS ?_))))))
   refine ol_step rfl (op_alloc hS el_49 rfl) ?_
   clear hS
   rintro _ w ⟨b16, rfl, hS⟩
   refine ol_step0  (op_storeN (j := 0) hS sz_49 rfl rfl rfl rfl rfl (by simp [Value.oneCell'])) ?_
   clear hS
   rintro _ w hS; (try simp only [List.nil_append, List.cons_append, List.set] at hS)
   refine ol_nil (pq_then (cw_seq (cw_region (ol_load rfl (op_load1 one_76 rfl (fun w hw => hw.gcell hg10)) hS (ol_pure rfl (op_move rfl) ?_)))))
   refine ol_step rfl (op_callv_sc (fs := []) (cs := [.pointer (some ⟨b9, 0, none⟩)]) hS cf_36 rfl rfl (gc_Collect_1_c _ _ hS.hold b9 oV cV to hg9 hRV (k : Int))) ?_
   clear hS
   rintro _ w ⟨rfl, hS⟩
   refine ol_nil (pq_then ?_)
   refine cw_cond rfl (fun h44 => ?_) (fun h44 => ?_)
   ·
    try simp only [dqT, dqF, dq1, dq2, dq3, dq4, dq5] at h44
    rw [hsa] at h44
    simp only [decide_eq_true_eq] at h44
    refine cw_cut (fun e w => e = [(1, .slice oa roots.length ca), (2, .slice om ms.length cm), (3, .pointer (some ⟨b3, 0, none⟩)), (6, .pointer (some ⟨b6, 0, none⟩)), (9, .pointer (some ⟨b9, 0, none⟩)), (10, .pointer (some ⟨b10, 0, none⟩)), (11, .pointer (some ⟨b11, 0, none⟩)), (12, .func (.func 38) #[] #[.pointer (some ⟨b11, 0, none⟩)]), (13, .pointer (some ⟨b13, 0, none⟩)), (14, .slice oH (k + 1) cH), (16, .pointer (some ⟨b16, 0, none⟩)), (33, .int .i64 (cs.length : Nat)), (34, .int .i64 (k : Nat))] ∧ SS G w0 Gx [.blk b16 49 (cellV (slotM to cs[k])), .row oH (k + 1) cH 3 1 ((aheadI to k).map (Value.int .i64)), .blk b13 28 [.slice oC (cellsC to (to.take k) (cs.take k)).length cC, .slice none 0 0, .int .i64 room], .row oC (cellsC to (to.take k) (cs.take k)).length cC 49 3 (cellsV (cellsC to (to.take k) (cs.take k))), .blk b6 28 [.slice none 0 0, .slice none 0 0, .int .i64 0], .blk b3 28 [.slice oc cs.length cc, .slice ot tr.length ct, .int .i64 room]] w) ?_ ?_
    ·
     refine cw_seq (cw_region (ol_pure rfl (op_fieldAddr fld_49_0 rfl) (ol_load rfl (op_load1 one_3 rfl (fun w hw => (hw.bcell (i := 0) rfl).trans rfl)) hS (ol_pure rfl (op_eql rfl rfl) (ol_pure rfl (op_move rfl) ?_)))))
     refine ol_split (fun h48 => ?_) (fun h48 => ?_)
     ·
      try simp only [dqT, dqF, dq1, dq2, dq3, dq4, dq5] at h48
      refine ol_guard_no rfl rfl rfl rfl (ol_guard_no rfl rfl rfl rfl (ol_guard_no rfl rfl rfl rfl (ol_pure rfl (op_pick_t rfl rfl) (ol_nil (pq_then (cw_cond_t rfl ?_))))))
      have hx13 : cs[k].kind = 1 ∨ cs[k].kind = 3 := by omega
      obtain ⟨q, hq⟩ : ∃ q : Nat, cs[k].n = q := Int.eq_ofNat_of_zero_le (a := cs[k].n) (by omega)
      have hql : q < to.length := by omega
      obtain ⟨hoq, hcq, hbq⟩ := hRV.int hql
      refine cw_region (ol_load rfl (op_load1 one_26 rfl (fun w hw => hw.gcell hg9)) hS (ol_pure rfl (op_fieldAddr fld_49_2 rfl) (ol_load rfl (op_load1 one_3 rfl (fun w hw => (hw.bcell (i := 0) rfl).trans rfl)) hS (ol_pure rfl (op_indexAddr (i := cs[k].n) (n := to.length) sl_26 rfl rfl (by omega) (by omega) hoq) (ol_load rfl (op_load1 (v := .int .i64 to[q]) one_3 rfl (fun w hw => hw.gcell (by rw [hq]; exact hcq))) hS (ol_pure rfl (op_fieldAddr fld_49_2 rfl) ?_))))))
      refine ol_step0  (op_storeB (j := 0) (k := 2) hS sz_3 rfl rfl rfl rfl (by simp)) ?_
      clear hS
      rintro _ w hS; (try simp only [List.nil_append, List.cons_append, List.set] at hS)
      refine ol_nil ?_
      refine pq_cut _ (by exact (by first | (have hm : slotM to cs[k] = ⟨cs[k].kind, cs[k].name, to[q]⟩ := (by rw [slotM, if_pos hx13, hq, valI_at hql]); rw [hm]; exact ⟨rfl, hS⟩) | (have hm : slotM to cs[k] = cs[k] := (by rw [slotM, if_neg (by omega)]); rw [hm]; exact ⟨rfl, hS⟩))) ((Sub.cons rfl (Sub.cons rfl (Sub.cons rfl (Sub.cons rfl (Sub.cons rfl (Sub.cons rfl (Sub.cons rfl (Sub.cons rfl (Sub.cons rfl (Sub.cons rfl (Sub.cons rfl (Sub.cons rfl (Sub.cons rfl Sub.nil))))))))))))))
     ·
      try simp only [dqT, dqF, dq1, dq2, dq3, dq4, dq5] at h48
      refine ol_guard_pure rfl rfl rfl (op_fieldAddr fld_49_0 rfl) (ol_guard_load rfl rfl rfl (op_load1 one_3 rfl (fun w hw => (hw.bcell (i := 0) rfl).trans rfl)) hS (ol_guard_pure rfl rfl rfl (op_eql rfl rfl) (ol_pure rfl (op_pick_f rfl rfl) (ol_nil (pq_then ?_)))))
      refine cw_cond rfl (fun h52 => ?_) (fun h52 => ?_)
      ·
       try simp only [dqT, dqF, dq1, dq2, dq3, dq4, dq5] at h52
       have hx13 : cs[k].kind = 1 ∨ cs[k].kind = 3 := by omega
       obtain ⟨q, hq⟩ : ∃ q : Nat, cs[k].n = q := Int.eq_ofNat_of_zero_le (a := cs[k].n) (by omega)
       have hql : q < to.length := by omega
       obtain ⟨hoq, hcq, hbq⟩ := hRV.int hql
       refine cw_region (ol_load rfl (op_load1 one_26 rfl (fun w hw => hw.gcell hg9)) hS (ol_pure rfl (op_fieldAddr fld_49_2 rfl) (ol_load rfl (op_load1 one_3 rfl (fun w hw => (hw.bcell (i := 0) rfl).trans rfl)) hS (ol_pure rfl (op_indexAddr (i := cs[k].n) (n := to.length) sl_26 rfl rfl (by omega) (by omega) hoq) (ol_load rfl (op_load1 (v := .int .i64 to[q]) one_3 rfl (fun w hw => hw.gcell (by rw [hq]; exact hcq))) hS (ol_pure rfl (op_fieldAddr fld_49_2 rfl) ?_))))))
       refine ol_step0  (op_storeB (j := 0) (k := 2) hS sz_3 rfl rfl rfl rfl (by simp)) ?_
       clear hS
       rintro _ w hS; (try simp only [List.nil_append, List.cons_append, List.set] at hS)
       refine ol_nil ?_
       refine pq_cut _ (by exact (by first | (have hm : slotM to cs[k] = ⟨cs[k].kind, cs[k].name, to[q]⟩ := (by rw [slotM, if_pos hx13, hq, valI_at hql]); rw [hm]; exact ⟨rfl, hS⟩) | (have hm : slotM to cs[k] = cs[k] := (by rw [slotM, if_neg (by omega)]); rw [hm]; exact ⟨rfl, hS⟩))) ((Sub.cons rfl (Sub.cons rfl (Sub.cons rfl (Sub.cons rfl (Sub.cons rfl (Sub.cons rfl (Sub.cons rfl (Sub.cons rfl (Sub.cons rfl (Sub.cons rfl (Sub.cons rfl (Sub.cons rfl (Sub.cons rfl Sub.nil))))))))))))))
      ·
       try simp only [dqT, dqF, dq1, dq2, dq3, dq4, dq5] at h52
       refine cw_skip ?_
       refine pq_cut _ (by exact (by first | (have hm : slotM to cs[k] = ⟨cs[k].kind, cs[k].name, to[q]⟩ := (by rw [slotM, if_pos hx13, hq, valI_at hql]); rw [hm]; exact ⟨rfl, hS⟩) | (have hm : slotM to cs[k] = cs[k] := (by rw [slotM, if_neg (by omega)]); rw [hm]; exact ⟨rfl, hS⟩))) ((Sub.cons rfl (Sub.cons rfl (Sub.cons rfl (Sub.cons rfl (Sub.cons rfl (Sub.cons rfl (Sub.cons rfl (Sub.cons rfl (Sub.cons rfl (Sub.cons rfl (Sub.cons rfl (Sub.cons rfl (Sub.cons rfl Sub.nil))))))))))))))
    clear hS
    rintro e w ⟨rfl, hS⟩
    unfold cellV at hS
    refine cw_region (ol_pure rfl (op_fieldAddr fld_28_0 rfl) (ol_load rfl (op_load1 one_25 rfl (fun w hw => (hw.bcell (i := 2) rfl).trans rfl)) hS (ol_load rfl (op_loadN agg_49 rfl (by rfl) (fun w hw k u hk => (hw.bcell (i := 0) rfl).trans hk)) hS ?_)))
    refine ol_step rfl (op_buildSlice (el := 49) (is := [0]) (xs := [.tmp 61]) (sz := 3) (cs := cellV (slotM to cs[k])) hS rfl rfl (fun w => by kernel_rfl) rfl (by decide)) ?_
    clear hS
    rintro _ w ⟨s62, rfl, hS⟩
    refine ol_step rfl (op_append (j := 4) hS sl_25 el_49 rfl rfl rfl rfl rfl rfl (by decide) (hS.news (j := 0) rfl) (by simp [cellV, Value.oneCell']) (by omega) (by unfold maxLen; omega)) ?_
    clear hS
    rintro _ w ⟨oq, c_oq, rfl, hS⟩; (try simp only [List.nil_append, List.cons_append, List.set] at hS); replace hS := SS.drop [] hS; (try simp only [List.nil_append, List.cons_append] at hS)
    refine ol_pure rfl (op_fieldAddr fld_28_0 rfl) ?_
    refine ol_step0  (op_storeB (j := 2) (k := 0) hS sz_25 rfl rfl rfl rfl (by simp)) ?_
    clear hS
    rintro _ w hS; (try simp only [List.nil_append, List.cons_append, List.set] at hS)
    refine ol_nil ?_
    refine pq_cut _ (by exact (by first | exact ⟨oq, c_oq, rfl, by rw [hcu, if_pos h44, cellsV_app, List.length_append]; simpa [cellsV] using SS.drop [] hS⟩ | exact ⟨oC, cC, rfl, by rw [hcu, if_neg h44, List.append_nil]; exact SS.drop [] hS⟩)) ((Sub.cons rfl (Sub.cons rfl (Sub.cons rfl (Sub.cons rfl (Sub.cons rfl (Sub.cons rfl (Sub.cons rfl (Sub.cons rfl (Sub.cons rfl (Sub.cons rfl (Sub.cons rfl (Sub.cons rfl Sub.nil)))))))))))))
   ·
    try simp only [dqT, dqF, dq1, dq2, dq3, dq4, dq5] at h44
    rw [hsa] at h44
    simp only [decide_eq_false_iff_not] at h44
    refine cw_skip ?_
    refine pq_cut _ (by exact (by first | exact ⟨oq, c_oq, rfl, by rw [hcu, if_pos h44, cellsV_app, List.length_append]; simpa [cellsV] using SS.drop [] hS⟩ | exact ⟨oC, cC, rfl, by rw [hcu, if_neg h44, List.append_nil]; exact SS.drop [] hS⟩)) ((Sub.cons rfl (Sub.cons rfl (Sub.cons rfl (Sub.cons rfl (Sub.cons rfl (Sub.cons rfl (Sub.cons rfl (Sub.cons rfl (Sub.cons rfl (Sub.cons rfl (Sub.cons rfl (Sub.cons rfl Sub.nil)))))))))))))
  clear hS
  rintro e w ⟨oC, cC, rfl, hS⟩
  have hcle2 := cellsC_le (to := to) (ts := to.take (k + 1)) (cs := cs.take (k + 1))
  simp only [List.length_take] at hcle2
  have hcl2 : ((cellsC to (to.take (k + 1)) (cs.take (k + 1)))).length = (someI (to.take (k + 1))).length := cellsC_len to _ _ (by simp; omega)
  refine cw_region (ol_pure rfl (op_move rfl) (ol_pure rfl (op_fieldAddr fld_28_0 rfl) (ol_load rfl (op_load1 one_25 rfl (fun w hw => (hw.bcell (i := 1) rfl).trans rfl)) hS (ol_pure rfl (op_len sl_25 rfl rfl) ?_))))
  refine ol_step rfl (op_buildSlice (el := 3) (is := [0]) (xs := [.tmp 68]) (sz := 1) (cs := [.int .i64 (((cellsC to (to.take (k + 1)) (cs.take (k + 1)))).length : Nat)]) hS rfl rfl (fun w => by kernel_rfl) rfl (by decide)) ?_
  clear hS
  rintro _ w ⟨s69, rfl, hS⟩
  refine ol_step rfl (op_append (j := 1) hS sl_26 el_3 rfl rfl rfl rfl rfl rfl (by decide) (hS.news (j := 0) rfl) (by simp [Value.oneCell']) (by omega) (by unfold maxLen; omega)) ?_
  clear hS
  rintro _ w ⟨oh, c_oh, rfl, hS⟩; (try simp only [List.nil_append, List.cons_append, List.set] at hS); replace hS := SS.drop [] hS; (try simp only [List.nil_append, List.cons_append] at hS)
  refine ol_pure rfl (op_assign rfl) (ol_nil (pq_in_normal (pq_then (cw_region (ol_pure rfl (op_add rfl rfl (by omega) (by omega)) (ol_pure rfl (op_move rfl) (ol_nil ?_)))))))
  refine pq_loop _ _ (by exact ⟨k + 1, oh, oC, c_oh, cC, rfl, by omega, rfl, by rw [aheadI_succ, ← hcl2]; simpa using hS⟩) ((Sub.cons rfl (Sub.cons rfl (Sub.cons rfl (Sub.cons rfl (Sub.cons rfl (Sub.cons rfl (Sub.cons rfl (Sub.cons rfl (Sub.cons rfl (Sub.cons rfl (Sub.cons rfl (Sub.cons rfl Sub.nil))))))))))))) (by omega)
 ·
  try simp only [dqT, dqF, dq1, dq2, dq3, dq4, dq5] at h35
  obtain rfl : k = cs.length := by omega
  rw [cellsM_end hto (Nat.le_refl _)] at hS
  have hAl := aheadI_len to cs.length
  obtain ⟨Gy, hly, hSy, hRA⟩ := SS.give' (aheadI to cs.length) [] EInt.mono hS (by decide) ((Rows.ints (fun x hx => by
    obtain ⟨i, _, rfl⟩ := List.mem_map.1 hx
    have := someI_len (to.take i)
    simp only [List.length_take] at this
    omega)).mono EInt.mono (fun b o hb => by cases hb)) (by rw [hAl])
  clear hS
  have hS := hSy
  clear hSy
  simp only [List.nil_append] at hS
  replace hg9 := hly.cell hg9
  replace hg10 := hly.cell hg10
  replace hg11 := hly.cell hg11
  replace hRV := hRV.mono EInt.mono hly
  replace hcur := hcur.trans hly
  refine cw_exit (pq_exit (pq_exit (pq_in_exit (pq_then (cw_seq (cw_region (ol_pure rfl (op_move rfl) ?_)))))))
  refine ol_pure rfl (op_fieldAddr fld_28_1 rfl) (ol_load rfl (op_load1 one_26 rfl (fun w hw => (hw.bcell (i := 3) rfl).trans rfl)) hS ?_)
  refine ol_step rfl (op_callv (fs := []) (cs := [.pointer (some ⟨b11, 0, none⟩)]) cf_38 rfl rfl (gc_Collect_3_c hS b9 oV cV to hg9 hRV b10 hg10 b11 hg11 hto1 ot ct tr (h2.mono EInt.mono hcur) htn)) ?_
  clear hS
  rintro _ w ⟨oT, cT, rfl, hS⟩
  refine ol_pure rfl (op_fieldAddr fld_28_1 rfl) ?_
  refine ol_step0  (op_storeB (j := 1) (k := 1) hS sz_26 rfl rfl rfl rfl (by simp)) ?_
  clear hS
  rintro _ w hS; (try simp only [List.nil_append, List.cons_append, List.set] at hS)
  refine ol_nil (pq_then (cw_seq ?_))
  have hS2 : SS G w0 Gy (.row oT (trailM to tr).length cT 3 1 ((trailM to tr).map (Value.int .i64)) :: [.blk b13 28 [.slice oC (cellsM to cs).length cC, .slice oT (trailM to tr).length cT, .int .i64 room], .row oC (cellsM to cs).length cC 49 3 (cellsV (cellsM to cs)), .blk b6 28 [.slice none 0 0, .slice none 0 0, .int .i64 0], .blk b3 28 [.slice oc cs.length cc, .slice ot tr.length ct, .int .i64 room]]) w := hS
  have htb2 : ∀ x ∈ trailM to tr, -9223372036854775808 ≤ x ∧ x ≤ 9223372036854775807 := fun x hx => by
    obtain ⟨y, _, rfl⟩ := List.mem_map.1 (List.mem_filter.1 hx).1
    split
    · rename_i hy
      exact htb _ (valI_mem hy.1 hy.2)
    · omega
  obtain ⟨Gz, hlz, hSz, hRT⟩ := SS.giveF (trailM to tr) [] EInt.mono hS2 (by decide) ((Rows.ints htb2).mono EInt.mono (fun b o hb => by cases hb)) rfl
  clear hS hS2
  have hS := SS.ins [_, _, _, _] hSz 46 3
  clear hSz
  simp only [List.nil_append, List.cons_append] at hS
  replace hg9 := hlz.cell hg9
  replace hg10 := hlz.cell hg10
  replace hg11 := hlz.cell hg11
  replace hRV := hRV.mono EInt.mono hlz
  replace hRA := hRA.mono EInt.mono hlz
  replace hcur := hcur.trans hlz
  have hcx := Le.refl Gz
  refine cw_region (ol_pure rfl (op_assign rfl) (ol_nil (pq_then (cw_seq (cw_seq (cw_region (ol_pure rfl (op_move rfl) ?_)))))))
  refine ol_pure rfl (op_len sl_29 rfl rfl) (ol_pure rfl (op_move rfl) (ol_nil (pq_then (cw_block ?_))))
  refine cw_loop (fun e w n => ∃ (Gc : GH) (j : Nat) (oM : Option Addr) (cM : Nat) (us : List Value), e = [(1, .slice oa roots.length ca), (3, .pointer (some ⟨b3, 0, none⟩)), (6, .pointer (some ⟨b6, 0, none⟩)), (11, .pointer (some ⟨b11, 0, none⟩)), (12, .func (.func 38) #[] #[.pointer (some ⟨b11, 0, none⟩)]), (13, .pointer (some ⟨b13, 0, none⟩)), (14, .slice oH (cs.length + 1) cH), (17, .slice oM j cM), (77, .slice om ms.length cm), (78, .int .i64 (ms.length : Nat)), (79, .int .i64 (j : Nat))] ∧ Le Gz Gc ∧ j ≤ ms.length ∧ n = ms.length - j ∧ Rows 3 EMk (frG w0 Gc) us ((ms.take j).map (markM to tr)) ∧ SS G w0 Gc [.blk b13 28 [.slice oC (cellsM to cs).length cC, .slice oT (trailM to tr).length cT, .int .i64 room], .row oC (cellsM to cs).length cC 49 3 (cellsV (cellsM to cs)), .blk b6 28 [.slice none 0 0, .slice none 0 0, .int .i64 0], .blk b3 28 [.slice oc cs.length cc, .slice ot tr.length ct, .int .i64 room], .row oM j cM 46 3 us] w) _ _ (by exact ⟨Gz, 0, none, 0, [], rfl, hcx, Nat.zero_le _, rfl, Rows.nil _, hS⟩) ((Sub.cons rfl (Sub.cons rfl (Sub.cons rfl (Sub.cons rfl (Sub.cons rfl (Sub.cons rfl (Sub.cons rfl (Sub.cons rfl (Sub.cons rfl (Sub.cons rfl (Sub.cons rfl Sub.nil)))))))))))) ?_
  clear hS
  rintro e w n ⟨Gc, j, oM, cM, us, rfl, hcx, hj, rfl, hus, hS⟩
  refine cw_seq (cw_region (ol_pure rfl (op_lss rfl rfl) (ol_nil (pq_then (cw_seq ?_)))))
  refine cw_cond rfl (fun h80 => ?_) (fun h80 => ?_)
  ·
   try simp only [dqT, dqF, dq1, dq2, dq3, dq4, dq5] at h80
   have hjl : j < ms.length := by omega
   obtain ⟨hom, o9, d9, hr9, hb9, hc9⟩ := (h4.mono EMk.mono (hcur.trans hcx)).mkAt hjl
   have hmo := hmk _ (List.getElem_mem hjl)
   unfold MkOk at hmo
   obtain ⟨a, ha⟩ := Int.eq_ofNat_of_zero_le hmo.1.1
   obtain ⟨t, ht⟩ := Int.eq_ofNat_of_zero_le hmo.2.1
   have hal : a ≤ cs.length := by omega
   have htl : t ≤ tr.length := by omega
   have hm9 := hmr _ (List.getElem_mem hjl)
   have hRt1 := (h2.mono EInt.mono (hcur.trans hcx)).pre htl
   have htkl : (tr.take t).length = t := by simp; omega
   have hmtk := map_take_succ (markM to tr) hjl
   have hmd : markM to tr ms[j] = ⟨((someI (to.take a)).length : Nat), ((someI (toI to (tr.take t))).length : Nat), toI to ms[j].roots⟩ := by
     unfold markM
     rw [ha, ht]
     rfl
   obtain ⟨hoA, hcA, hbA⟩ := (hRA.mono EInt.mono hcx).int (i := a) (by rw [hAl]; omega)
   have hAa : (aheadI to cs.length)[a]'(by rw [hAl]; omega) = ((someI (to.take a)).length : Int) := (List.getElem?_eq_some_iff.1 (aheadI_at hal)).2
   rw [hAa] at hcA
   refine cw_skip (pq_then (cw_seq (cw_block (cw_seq (cw_region (ol_pure rfl (op_indexN sl_29 rfl rfl (by omega) hom) (ol_load rfl (op_loadN agg_46 rfl (by rfl) (fun w hw k u hk => hw.gcell (hc9 k u hk))) hS ?_)))))))
   refine ol_step rfl (op_alloc hS el_46 rfl) ?_
   clear hS
   rintro _ w ⟨b19, rfl, hS⟩
   refine ol_step0  (op_storeN (j := 0) hS sz_46 rfl rfl rfl rfl rfl (by simp [Value.oneCell'])) ?_
   clear hS
   rintro _ w hS; (try simp only [List.nil_append, List.cons_append, List.set] at hS)
   refine ol_nil (pq_then ?_)
   rw [ha, ht] at hS
   refine al_start' hS (hS.take 5) (by kernel_rfl) rfl (fun w hS hT => ?_)
   refine al_take (i := 0) rfl (by kernel_rfl) (by kernel_rfl) (by kernel_rfl) rfl (fun _ _ _ h => h) (op_move rfl) rfl (al_take (i := 1) rfl (by kernel_rfl) (by kernel_rfl) (by kernel_rfl) rfl (fun _ _ _ h => h) (op_move rfl) rfl (al_take (i := 2) rfl (by kernel_rfl) (by kernel_rfl) (by kernel_rfl) rfl (fun _ _ _ h => h) (op_fieldAddr fld_46_0 rfl) rfl (al_load (i := 3) rfl (by kernel_rfl) (by kernel_rfl) (by kernel_rfl) rfl (fun _ _ _ h => h) (by exact op_load1 one_3 rfl (fun w hw => (hw.bcell (i := 0) rfl).trans rfl)) rfl hT (al_take (i := 4) rfl (by kernel_rfl) (by kernel_rfl) (by kernel_rfl) rfl (fun _ _ _ h => h) (op_indexN (n := cs.length + 1) (i := a) sl_26 rfl rfl (by omega) hoA) rfl (al_load (i := 5) rfl (by kernel_rfl) (by kernel_rfl) (by kernel_rfl) rfl (fun _ _ _ h => h) (by exact op_load1 one_3 rfl (fun w hw => hw.gcell hcA)) rfl hT (al_take (i := 6) rfl (by kernel_rfl) (by kernel_rfl) (by kernel_rfl) rfl (fun _ _ _ h => h) (op_move rfl) rfl (al_take (i := 7) rfl (by kernel_rfl) (by kernel_rfl) (by kernel_rfl) rfl (fun _ _ _ h => h) (op_fieldAddr fld_28_1 rfl) rfl ?_)))))))
   refine al_load (i := 8) rfl (by kernel_rfl) (by kernel_rfl) (by kernel_rfl) rfl (fun _ _ _ h => h) (by exact op_load1 one_26 rfl (fun w hw => (hw.bcell (i := 4) rfl).trans rfl)) rfl hT (al_take (i := 9) rfl (by kernel_rfl) (by kernel_rfl) (by kernel_rfl) rfl (fun _ _ _ h => h) (op_fieldAddr fld_46_1 rfl) rfl (al_load (i := 10) rfl (by kernel_rfl) (by kernel_rfl) (by kernel_rfl) rfl (fun _ _ _ h => h) (by exact op_load1 one_3 rfl (fun w hw => (hw.bcell (i := 0) rfl).trans rfl)) rfl hT (al_take (i := 11) rfl (by kernel_rfl) (by kernel_rfl) (by kernel_rfl) rfl (fun _ _ _ h => h) (op_val (v' := .slice ot (tr.take t).length ct) (op_sliceP (c := ct) (h := t) sl_26 rfl rfl (by omega)) (by rw [htkl])) rfl (al_load (i := 14) rfl (by kernel_rfl) (by kernel_rfl) (by kernel_rfl) rfl (fun _ _ _ h => h) (by exact op_load1 one_77 rfl (fun w hw => hw.gcell (hcx.cell hg11))) rfl hT (al_take (i := 15) rfl (by kernel_rfl) (by kernel_rfl) (by kernel_rfl) rfl (fun _ _ _ h => h) (op_fieldAddr fld_46_2 rfl) rfl (al_load (i := 16) rfl (by kernel_rfl) (by kernel_rfl) (by kernel_rfl) rfl (fun _ _ _ h => h) (by exact op_load1 one_26 rfl (fun w hw => (hw.bcell (i := 0) rfl).trans rfl)) rfl hT ?_))))))
   refine al_step (i := 12) rfl (by kernel_rfl) rfl (op_callv (fs := []) (cs := [.pointer (some ⟨b11, 0, none⟩)]) cf_38 rfl rfl (gc_Collect_3_c hS b9 oV cV to (hcx.cell hg9) (hRV.mono EInt.mono hcx) b10 (hcx.cell hg10) b11 (hcx.cell hg11) hto1 ot ct (tr.take t) (by rw [htkl]; exact hRt1) (by omega))) ?_
   clear hS
   rintro _ w ⟨o95, c95, rfl, hS⟩
   replace hS := SS.drop [] hS
   (try simp only [List.nil_append] at hS)
   have htl2 := toI_len to (tr.take t)
   have hsl1 := someI_len (to.take a)
   have hsl2 := someI_len (toI to (tr.take t))
   simp only [List.length_take] at hsl1
   have hT := hT.back hS (by first | exact Le.refl _ | assumption) (fun x hx => by try simp only [bkA, bkB, bkC, bkD, bkE] at hx; (rcases hx with rfl | rfl | rfl | rfl | rfl) <;> simp)
   refine ⟨fun _ _ => hT, ?_⟩
   refine al_take (i := 13) rfl (by kernel_rfl) (by kernel_rfl) (by kernel_rfl) rfl (fun _ _ _ h => h) (op_len sl_26 rfl rfl) rfl ?_
   refine al_step (i := 17) rfl (by kernel_rfl) rfl (op_callv (fs := []) (cs := [.pointer (some ⟨b10, 0, none⟩), .pointer (some ⟨b9, 0, none⟩)]) cf_37 rfl rfl (gc_Collect_2_c hS b9 oV cV to (hcx.cell hg9) (hRV.mono EInt.mono hcx) b10 (hcx.cell hg10) hto1 o9 d9 ms[j].roots hr9 (by omega))) ?_
   clear hS
   rintro _ w ⟨o99, c99, rfl, hS⟩
   have htb3 : ∀ x ∈ toI to ms[j].roots, -9223372036854775808 ≤ x ∧ x ≤ 9223372036854775807 := fun x hx => by
     obtain ⟨y, _, rfl⟩ := List.mem_map.1 hx
     split
     · rename_i hy
       exact htb _ (valI_mem hy.1 hy.2)
     · omega
   obtain ⟨Gm, hlm4, hSm, hRm⟩ := SS.giveF (toI to ms[j].roots) [] EInt.mono hS (by decide) ((Rows.ints htb3).mono EInt.mono (fun b o hb => by cases hb)) (toI_len _ _).symm
   clear hS
   have hS := hSm
   clear hSm
   simp only [List.nil_append] at hS
   have hT := hT.back hS (by first | exact Le.refl _ | assumption) (fun x hx => by try simp only [bkA, bkB, bkC, bkD, bkE] at hx; (rcases hx with rfl | rfl | rfl | rfl | rfl) <;> simp)
   refine ⟨fun _ _ => hT, ?_⟩
   refine al_take (i := 18) rfl (by kernel_rfl) (by kernel_rfl) (by kernel_rfl) rfl (fun _ _ _ h => h) (op_build (is := [0, 1, 2]) (xs := [.tmp 88, .tmp 96, .tmp 100]) (v := .agg #[.int .i64 ((someI (to.take a)).length : Nat), .int .i64 ((someI (toI to (tr.take t))).length : Nat), .slice o99 ms[j].roots.length c99]) rfl rfl (fun w => by kernel_rfl)) rfl ?_
   refine al_step (i := 19) rfl (by kernel_rfl) rfl (op_buildSlice (el := 46) (is := [0]) (xs := [.tmp 101]) (sz := 3) (cs := [.int .i64 ((someI (to.take a)).length : Nat), .int .i64 ((someI (toI to (tr.take t))).length : Nat), .slice o99 ms[j].roots.length c99]) hS rfl rfl (fun w => by kernel_rfl) rfl (by decide)) ?_
   clear hS
   rintro _ w ⟨s102, rfl, hS⟩
   have hT := hT.back hS (by first | exact Le.refl _ | assumption) (fun x hx => by try simp only [bkA, bkB, bkC, bkD, bkE] at hx; (rcases hx with rfl | rfl | rfl | rfl | rfl) <;> simp)
   refine ⟨fun _ _ => hT, ?_⟩
   refine al_step (i := 20) rfl (by kernel_rfl) rfl (op_append (j := 6) hS sl_29 el_46 rfl rfl rfl rfl rfl rfl (by decide) (hS.news (j := 0) rfl) (by intro u hu; simp only [List.mem_cons, List.not_mem_nil, or_false] at hu; rcases hu with rfl | rfl | rfl <;> rfl) (by omega) (by unfold maxLen; omega)) ?_
   clear hS
   rintro _ w ⟨oq, c_oq, rfl, hS⟩; (try simp only [List.nil_append, List.cons_append, List.set] at hS); replace hS := SS.drop [] hS; (try simp only [List.nil_append, List.cons_append] at hS)
   have hsn := (hus.mono EMk.mono (frLe hlm4)).snoc (x := markM to tr ms[j]) (cs := [.int .i64 ((someI (to.take a)).length : Nat), .int .i64 ((someI (toI to (tr.take t))).length : Nat), .slice o99 ms[j].roots.length c99]) rfl (by rw [hmd]; exact ⟨_, rfl, hRm, by simp only; omega, by simp only; omega⟩)
   have hT := hT.back hS (by first | exact Le.refl _ | assumption) (fun x hx => by try simp only [bkA, bkB, bkC, bkD, bkE] at hx; (rcases hx with rfl | rfl | rfl | rfl | rfl) <;> simp)
   refine ⟨fun _ _ => hT, ?_⟩
   refine al_take (i := 21) rfl (by kernel_rfl) (by kernel_rfl) (by kernel_rfl) rfl (fun _ _ _ h => h) (op_assign rfl) rfl (al_done (by kernel_rfl) (pq_in_normal (pq_then (cw_region (ol_pure rfl (op_add rfl rfl (by omega) (by omega)) (ol_pure rfl (op_move rfl) (ol_nil ?_)))))))
   refine pq_loop _ _ (by exact ⟨_, j + 1, oq, c_oq, _, rfl, hcx.trans hlm4, by omega, rfl, by rw [hmtk]; exact hsn, SS.drop [] hS⟩) ((Sub.cons rfl (Sub.cons rfl (Sub.cons rfl (Sub.cons rfl (Sub.cons rfl (Sub.cons rfl (Sub.cons rfl (Sub.cons rfl (Sub.cons rfl (Sub.cons rfl (Sub.cons rfl Sub.nil)))))))))))) (by omega)
  ·
   try simp only [dqT, dqF, dq1, dq2, dq3, dq4, dq5] at h80
   refine cw_exit (pq_exit (pq_exit (pq_in_exit (pq_then (cw_seq ?_)))))
   refine al_start' hS (hS.take 1) (by kernel_rfl) rfl (fun w hS hT => ?_)
   refine al_load (i := 0) rfl (by kernel_rfl) (by kernel_rfl) (by kernel_rfl) rfl (fun _ _ _ h => h) (by exact op_loadN agg_28 rfl (by rfl) (fun w hw k u hk => (hw.bcell (i := 0) rfl).trans hk)) rfl hT (al_load (i := 1) rfl (by kernel_rfl) (by kernel_rfl) (by kernel_rfl) rfl (fun _ _ _ h => h) (by exact op_load1 one_77 rfl (fun w hw => hw.gcell (hcx.cell hg11))) rfl hT (al_take (i := 2) rfl (by kernel_rfl) (by kernel_rfl) (by kernel_rfl) rfl (fun _ _ _ h => h) (op_move rfl) rfl (al_take (i := 4) rfl (by kernel_rfl) (by kernel_rfl) (by kernel_rfl) rfl (fun _ _ _ h => h) (op_move rfl) rfl ?_)))
   refine al_step (i := 3) rfl (by kernel_rfl) rfl (op_callv (fs := []) (cs := [.pointer (some ⟨b10, 0, none⟩), .pointer (some ⟨b9, 0, none⟩)]) cf_37 rfl rfl (gc_Collect_2_c hS b9 oV cV to (hcx.cell hg9) (hRV.mono EInt.mono hcx) b10 (hcx.cell hg10) hto1 oa ca roots (h3.mono EInt.mono (hcur.trans hcx)) (by omega))) ?_
   clear hS
   rintro _ w ⟨oZ, cZ, rfl, hS⟩
   have htb3 : ∀ x ∈ toI to roots, -9223372036854775808 ≤ x ∧ x ≤ 9223372036854775807 := fun x hx => by
     obtain ⟨y, _, rfl⟩ := List.mem_map.1 hx
     split
     · rename_i hy
       exact htb _ (valI_mem hy.1 hy.2)
     · omega
   obtain ⟨Gm, hlm4, hSm, hRm⟩ := SS.giveF (toI to roots) [] EInt.mono hS (by decide) ((Rows.ints htb3).mono EInt.mono (fun b o hb => by cases hb)) (toI_len _ _).symm
   clear hS
   have hS := hSm
   clear hSm
   simp only [List.nil_append] at hS
   have hT := hT.back hS (by first | exact Le.refl _ | assumption) (fun x hx => by try simp only [bkA, bkB, bkC, bkD, bkE] at hx; (rcases hx with rfl) <;> simp)
   refine ⟨fun _ _ => hT, ?_⟩
   refine al_step0 (i := 5) rfl (by kernel_rfl) (op_storeN (j := 2) hS sz_28 rfl rfl rfl rfl rfl (by simp [Value.oneCell'])) ?_
   clear hS
   rintro _ w hS; (try simp only [List.nil_append, List.cons_append, List.set] at hS)
   have hT := hT.back hS (by first | exact Le.refl _ | assumption) (fun x hx => by try simp only [bkA, bkB, bkC, bkD, bkE] at hx; (rcases hx with rfl) <;> simp)
   refine ⟨fun _ _ => hT, ?_⟩
   refine al_take (i := 6) rfl (by kernel_rfl) (by kernel_rfl) (by kernel_rfl) rfl (fun _ _ _ h => h) (op_assign rfl) rfl (al_take (i := 7) rfl (by kernel_rfl) (by kernel_rfl) (by kernel_rfl) rfl (fun _ _ _ h => h) (op_assign rfl) rfl (al_done (by kernel_rfl) (pq_then (cw_ret ?_))))
   refine retN3 rfl agg_28 rfl rfl rfl (by rfl) (fun k u hk => (hS.bcell (i := 2) rfl).trans hk) ?_
   obtain rfl : j = ms.length := by omega
   rw [List.take_length] at hus
   have hbM : ∀ c ∈ cellsM to cs, CellBd c := fun c hc => by
     obtain ⟨d, h5, rfl⟩ := cellsC_mem hc
     exact slotM_bd (h1.cellBd d h5) htb
   obtain ⟨Ga, hla, hSa, hRC⟩ := SS.giveF (cellsM to cs) [_] ECell.mono hS (by decide) (Rows.cells hbM) rfl
   obtain ⟨Gb, hlb, hSb, hRM⟩ := SS.giveF (ms.map (markM to tr)) [_, _, _] EMk.mono hSa (by decide) (hus.mono EMk.mono (frLe (hlm4.trans hla))) (by simp)
   have hlx := hcx.trans (hlm4.trans (hla.trans hlb))
   exact hSb.rt_fr frG_le frG_old ⟨_, _, _, rfl, ⟨_, _, _, _, rfl, hRC.mono ECell.mono (frLe hlb), hRT.mono EInt.mono (frLe hlx)⟩, hRm.mono EInt.mono (frLe (hla.trans hlb)), hRM⟩
end Go.Proofs.Ytnmkffkalnkbbaa.K
