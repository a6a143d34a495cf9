/-
  Functions of the library on slices of numbers: where something is, a copy, what is dropped in place.
  No condition but the premises that each theorem names.
-/
import Derived.Test.YtnmkffkalnkbbaaHp1
namespace Go.Proofs.Ytnmkffkalnkbbaa.K
open Go Go.RowKit
set_option linter.unusedVariables false
set_option linter.unusedSimpArgs false

open Pl
theorem filter_take_succ {p : Int → Bool} {xs : List Int} {k : Nat} (h : k < xs.length) : (xs.take (k + 1)).filter p = (xs.take k).filter p ++ if p xs[k] = true then [xs[k]] else [] := by
  rw [List.take_succ_eq_append_getElem h, List.filter_append]
  by_cases h2 : p xs[k] = true <;> simp [List.filter, h2]
theorem filter_pre {p : Int → Bool} {xs : List Int} {k : Nat} (hn : ∀ (i : Nat) (hi : i < xs.length), i < k → p xs[i] = false) : (xs.take k).filter (fun x => !p x) = xs.take k := by
  rw [List.filter_eq_self]
  intro x hx
  obtain ⟨i, hi, rfl⟩ := List.getElem_of_mem hx
  simp only [List.length_take] at hi
  rw [List.getElem_take, hn i (by omega) (by omega)]
  rfl

set_option maxRecDepth 100000 in

theorem slices_IndexFunc_c (G : GH) (w0 : World) (hG : Holds G w0) (v : Value) (xs : List Int) (h1 : RSl 1 EInt G v xs) (p : Int → Bool) (fid : FuncId) (caps : List Value) (hcf : CF Try.prog fid) (hp : ∀ w, Below w0.heap.size w0 w → ∀ x ∈ xs, Calls Try.prog fid (.int .i64 x :: caps).toArray w (Sc w (.bool (p x)))) :
   Calls Try.prog 63 #[v, .func (.func fid) #[] caps.toArray] w0 (Sc w0 (.int .i64 (findP p xs))) := by
 obtain ⟨oa, c, rfl, hlc, hcm⟩ := h1.elim
 have hle := h1.le
 refine enter Try.func63 rfl (N := 19) rfl (Nat.le_of_ble_eq_true rfl) ?_
 have hS := SS.init hG
 refine cw_seq (cw_region (ol_pure rfl (op_assign rfl) (ol_nil (pq_then (cw_seq (cw_seq (cw_region ?_)))))))
 refine ol_pure rfl (op_move rfl) (ol_pure rfl (op_len sl_26 rfl rfl) (ol_pure rfl (op_move rfl) (ol_nil (pq_then (cw_block ?_)))))
 refine cw_loop (fun e w n => ∃ k : Nat, e = [(0, .slice oa xs.length c), (1, .func (.func fid) #[] caps.toArray), (7, .int .i64 (xs.length : Nat)), (8, .int .i64 (k : Nat))] ∧ k ≤ xs.length ∧ n = xs.length - k ∧ (∀ (i : Nat) (hi : i < xs.length), i < k → p xs[i] = false) ∧ SS G w0 G [] w) _ _ (by exact ⟨0, rfl, Nat.zero_le _, rfl, (fun i _ h => absurd h (Nat.not_lt_zero _)), hS⟩) ((Sub.cons rfl (Sub.cons rfl (Sub.cons rfl (Sub.cons rfl Sub.nil))))) ?_
 clear hS
 rintro e w n ⟨k, rfl, hk, rfl, hno, hS⟩
 refine cw_seq (cw_region (ol_pure rfl (op_lss rfl rfl) (ol_nil (pq_then (cw_seq ?_)))))
 refine cw_cond rfl (fun h9 => ?_) (fun h9 => ?_)
 ·
  try simp only [dqT, dqF, dq1, dq2, dq3, dq4, dq5] at h9
  have hlt : k < xs.length := by omega
  obtain ⟨hoa, hc, hb⟩ := h1.int hlt
  refine cw_skip (pq_then (cw_seq (cw_block (cw_seq (cw_region (ol_pure rfl (op_move rfl) (ol_pure rfl (op_assign rfl) ?_)))))))
  refine ol_nil (pq_then (cw_seq (cw_region (ol_pure rfl (op_move rfl) (ol_pure rfl (op_move rfl) (ol_pure rfl (op_move rfl) (ol_pure rfl (op_indexN sl_26 rfl rfl (by omega) (by assumption)) ?_)))))))
  refine ol_load rfl (op_load1 one_3 rfl (fun w hw => by first | exact hw.gcell (by assumption) | exact hw.gcell0 (by assumption))) hS ?_
  refine ol_step rfl (op_callv_sc (fs := []) hS hcf rfl rfl (hp _ hS.below _ (List.getElem_mem hlt))) ?_
  clear hS
  rintro _ w ⟨rfl, hS⟩
  refine ol_nil (pq_then ?_)
  refine cw_cond rfl (fun h16 => ?_) (fun h16 => ?_)
  ·
   try simp only [dqT, dqF, dq1, dq2, dq3, dq4, dq5] at h16
   refine cw_seq (cw_region (ol_pure rfl (op_move rfl) (ol_pure rfl (op_assign rfl) (ol_nil (pq_then (cw_ret (pq_in_ret ?_)))))))
   refine pq_ret (pq_ret (pq_in_ret (pq_ret (ret1 rfl rfl ?_))))
   exact hS.sc_i (findP_at hlt (by simpa using h16) hno).symm
  ·
   try simp only [dqT, dqF, dq1, dq2, dq3, dq4, dq5] at h16
   refine cw_skip (pq_in_normal (pq_then (cw_region (ol_pure rfl (op_add rfl rfl (by omega) (by omega)) (ol_pure rfl (op_move rfl) (ol_nil ?_))))))
   refine pq_loop _ _ (by exact ⟨k + 1, rfl, by omega, rfl, (fun i hi hik => by rcases Nat.lt_succ_iff_lt_or_eq.1 hik with hh | rfl; exact hno i hi hh; simpa using h16), hS⟩) ((Sub.cons rfl (Sub.cons rfl (Sub.cons rfl (Sub.cons rfl Sub.nil))))) (by omega)
 ·
  try simp only [dqT, dqF, dq1, dq2, dq3, dq4, dq5] at h9
  refine cw_exit (pq_exit (pq_exit (pq_in_exit (pq_then (cw_seq (cw_region (ol_pure rfl (op_assign rfl) ?_)))))))
  refine ol_nil (pq_then (cw_ret (ret1 rfl rfl ?_)))
  exact hS.sc_i (findP_none (by omega) hno).symm
set_option maxRecDepth 100000 in

theorem slices_Clone_c {G0 G : GH} {w0 w : World} {M : List Ent} {oa : Option Addr} {c : Nat} {xs : List Int} (hS : SS G0 w0 G M w) (h1 : RSl 1 EInt G (.slice oa xs.length c) xs) (hn : xs.length ≤ 1000000) :
   Calls Try.prog 44 #[.slice oa xs.length c] w (fun en w' => ∃ v, en = .returned v ∧ ∃ ob cb, v = .slice ob xs.length cb ∧ SS G0 w0 G (.row ob xs.length cb 3 1 (xs.map (Value.int .i64)) :: M) w') := by
 have hle := h1.len
 have hbd := h1.bnd
 refine enter Try.func44 rfl (N := 8) rfl (Nat.le_of_ble_eq_true rfl) ?_
 refine cw_seq (cw_region (ol_pure rfl (op_assign rfl) (ol_nil (pq_then (cw_seq (cw_seq (cw_region ?_)))))))
 refine ol_pure rfl (op_move rfl) (ol_pure rfl (op_eqlNil sl_26 rfl rfl) (ol_nil (pq_then ?_)))
 refine cw_cond rfl (fun h4 => ?_) (fun h4 => ?_)
 ·
  try simp only [dqT, dqF, dq1, dq2, dq3, dq4, dq5] at h4
  have hx0 : xs = [] := by
    cases xs with
    | nil => rfl
    | cons x r =>
      obtain ⟨g1, _⟩ := h1.at_ (i := 0) (x := x) rfl
      cases oa with
      | none => cases g1
      | some a => cases h4
  subst hx0
  refine cw_seq (cw_region (ol_pure rfl (op_assign rfl) (ol_nil (pq_then (cw_ret (pq_ret (ret1 rfl rfl ?_)))))))
  exact ⟨_, rfl, none, 0, rfl, hS.nil 3 1⟩
 ·
  try simp only [dqT, dqF, dq1, dq2, dq3, dq4, dq5] at h4
  refine cw_skip (pq_then (cw_seq (cw_region ?_)))
  refine ol_step rfl (op_buildSlice (el := 3) (is := []) (xs := []) (sz := 1) (cs := []) hS rfl rfl (fun w => by kernel_rfl) rfl (by decide)) ?_
  clear hS
  rintro _ w ⟨o5, rfl, hS⟩
  refine ol_pure rfl (op_move rfl) ?_
  refine ol_step rfl (op_append (j := 0) (m := xs.length) (news := xs.map (Value.int .i64)) hS sl_26 el_3 rfl rfl rfl rfl rfl (by simp) (by decide) (h1.newsI hS.hold) (ones_i xs) (by omega) (by unfold maxLen; omega)) ?_
  clear hS
  rintro _ w ⟨o5n, c_o5n, rfl, hS⟩; (try simp only [List.nil_append, List.cons_append, List.set] at hS)
  refine ol_pure rfl (op_assign rfl) (ol_nil (pq_then (cw_ret (ret1 rfl rfl ?_))))
  exact ⟨_, rfl, o5n, c_o5n, by rw [Nat.zero_add], by rw [Nat.zero_add] at hS; exact hS⟩
set_option maxRecDepth 100000 in
set_option maxHeartbeats 400000 in

theorem slices_DeleteFunc_c {G0 G : GH} {w0 w : World} {M : List Ent} {oa : Option Addr} {c : Nat} {xs : List Int} (hS : SS G0 w0 G (.row oa xs.length c 3 1 (xs.map (Value.int .i64)) :: M) w) (hb : ∀ x ∈ xs, -9223372036854775808 ≤ x ∧ x ≤ 9223372036854775807) (p : Int → Bool) (ys : List Int) (hys : xs.filter (fun x => !p x) = ys) (fid : FuncId) (caps : List Value) (hcf : CF Try.prog fid) (hp : ∀ ys w', SS G0 w0 G (.row oa xs.length c 3 1 ys :: M) w' → ∀ x ∈ xs, Calls Try.prog fid (.int .i64 x :: caps).toArray w' (Sc w' (.bool (p x)))) :
   Calls Try.prog 39 #[.slice oa xs.length c, .func (.func fid) #[] caps.toArray] w (fun en w' => en = .returned (.slice oa ys.length c) ∧ SS G0 w0 G (.row oa ys.length c 3 1 (ys.map (Value.int .i64)) :: M) w') := by
 subst hys
 have hrl := (hS.row_len []).2
 have hml : maxLen ≤ 9223372036854775807 := by decide
 have hRS := SS.lend (zs := xs) [] hS (by decide) EInt.mono (Rows.ints hb |>.mono EInt.mono (fun b o hb => by cases hb)) rfl
 refine enter Try.func39 rfl (N := 42) rfl (Nat.le_of_ble_eq_true rfl) ?_
 refine cw_seq (cw_region (ol_pure rfl (op_assign rfl) (ol_nil (pq_then (cw_seq (cw_region (ol_pure rfl (op_move rfl) ?_)))))))
 refine ol_pure rfl (op_move rfl) ?_
 refine ol_step rfl (op_call_sc hS cf_63 rfl (slices_IndexFunc_c (fullG _) _ (Holds.full _) _ xs hRS p fid caps hcf (fun w1 hB x hx => hp _ w1 (hS.kept hB) x hx))) ?_
 clear hS
 rintro _ w ⟨rfl, hS⟩
 refine ol_pure rfl (op_assign rfl) (ol_nil (pq_then (cw_seq (cw_seq (cw_region (ol_pure rfl (op_move rfl) (ol_pure rfl (op_eql rfl rfl) ?_)))))))
 refine ol_nil (pq_then ?_)
 refine cw_cond rfl (fun h12 => ?_) (fun h12 => ?_)
 ·
  try simp only [dqT, dqF, dq1, dq2, dq3, dq4, dq5] at h12
  have hall : xs.filter (fun x => !p x) = xs := by
    rw [List.filter_eq_self]
    intro x hx
    have h2 := findP_any p xs
    rw [h12] at h2
    have h3 : xs.any p = false := by rw [← h2]; rfl
    have := List.any_eq_false.1 h3 x hx
    simpa using this
  refine cw_seq (cw_region (ol_pure rfl (op_move rfl) (ol_pure rfl (op_assign rfl) (ol_nil (pq_then (cw_ret (pq_ret ?_)))))))
  refine ret1 rfl rfl ?_
  rw [hall]
  exact ⟨rfl, hS⟩
 ·
  try simp only [dqT, dqF, dq1, dq2, dq3, dq4, dq5] at h12
  obtain ⟨i0, hi0⟩ : ∃ i0 : Nat, findP p xs = i0 := by
    unfold findP at h12 ⊢
    cases hfx : xs.findIdx? p with
    | none => rw [hfx] at h12; exact absurd rfl h12
    | some i => exact ⟨i, rfl⟩
  obtain ⟨hil, hpi, hno⟩ := findP_spec hi0
  rw [hi0]
  refine cw_skip (pq_then (cw_seq (cw_seq (cw_region (ol_pure rfl (op_move rfl) (ol_pure rfl (op_add rfl rfl (by omega) (by omega)) (ol_pure rfl (op_assign rfl) ?_)))))))
  refine ol_nil (pq_then (cw_block ?_))
  refine cw_loop (fun e w n => ∃ (i j : Nat) (us : List Value), e = [(0, .slice oa xs.length c), (1, .func (.func fid) #[] caps.toArray), (5, .int .i64 (i : Nat)), (6, .int .i64 (j : Nat))] ∧ i ≤ j ∧ j ≤ xs.length ∧ n = xs.length - j ∧ us.length = xs.length ∧ i = ((xs.take j).filter fun x => !p x).length ∧ us.take i = ((xs.take j).filter fun x => !p x).map (Value.int .i64) ∧ us.drop j = (xs.drop j).map (Value.int .i64) ∧ SS G0 w0 G (.row oa xs.length c 3 1 us :: M) w) _ _ (by exact ⟨i0, i0 + 1, xs.map (Value.int .i64), rfl, by omega, by omega, rfl, by simp, by rw [filter_take_succ hil, filter_pre hno, hpi]; simp; omega, by rw [filter_take_succ hil, filter_pre hno, hpi]; simp, by rw [List.map_drop], hS⟩) ((Sub.cons rfl (Sub.cons rfl (Sub.cons rfl (Sub.cons rfl Sub.nil))))) ?_
  clear hS
  rintro e w n ⟨i, j, us, rfl, hij, hj, rfl, hus, hi, hpre, hdr, hS⟩
  refine cw_seq (cw_seq (cw_region (ol_pure rfl (op_move rfl) (ol_pure rfl (op_move rfl) (ol_pure rfl (op_len sl_26 rfl rfl) (ol_pure rfl (op_lss rfl rfl) (ol_nil ?_)))))))
  refine pq_then ?_
  refine cw_cond rfl (fun h19 => ?_) (fun h19 => ?_)
  ·
   try simp only [dqT, dqF, dq1, dq2, dq3, dq4, dq5] at h19
   have hjl : j < xs.length := by omega
   have hcj : us[j * 1]? = some (.int .i64 xs[j]) := by
     have h := congrArg (fun l => l[0]?) hdr
     simp only [List.getElem?_drop, List.getElem?_map, Nat.add_zero] at h
     rw [Nat.mul_one, h]
     simp [hjl]
   have hoa := (hS.news (j := 0) rfl _ _ hcj).1
   have hfs := filter_take_succ (p := fun x => !p x) hjl
   refine cw_skip (pq_then (cw_seq (cw_block (cw_seq (cw_region (ol_pure rfl (op_move rfl) (ol_pure rfl (op_move rfl) ?_)))))))
   refine ol_pure rfl (op_indexN sl_26 rfl rfl (by omega) (by assumption)) (ol_load rfl (op_load1 one_3 rfl (fun w hw => hw.rcell (i := 0) rfl hcj)) hS (ol_pure rfl (op_assign rfl) (ol_nil (pq_then (cw_seq (cw_region (ol_pure rfl (op_move rfl) ?_)))))))
   refine ol_pure rfl (op_move rfl) ?_
   refine ol_step rfl (op_callv_sc (fs := []) hS hcf rfl rfl (hp _ _ hS _ (List.getElem_mem hjl))) ?_
   clear hS
   rintro _ w ⟨rfl, hS⟩
   refine ol_pure rfl (op_not rfl) (ol_nil (pq_then ?_))
   refine cw_cond rfl (fun h29 => ?_) (fun h29 => ?_)
   ·
    try simp only [dqT, dqF, dq1, dq2, dq3, dq4, dq5] at h29
    refine cw_seq (cw_region (ol_pure rfl (op_move rfl) (ol_pure rfl (op_move rfl) (ol_pure rfl (op_move rfl) (ol_pure rfl (op_indexN sl_26 rfl rfl (by omega) (by assumption)) ?_)))))
    refine ol_step0  (op_storeR (j := 0) (k := i * 1) hS sz_3 rfl rfl rfl rfl (by omega)) ?_
    clear hS
    rintro _ w hS; (try simp only [List.nil_append, List.cons_append, List.set] at hS)
    refine ol_nil (pq_then (cw_region (ol_pure rfl (op_move rfl) (ol_pure rfl (op_add rfl rfl (by omega) (by omega)) (ol_pure rfl (op_assign rfl) (ol_nil (pq_in_normal ?_)))))))
    refine pq_then (cw_region (ol_pure rfl (op_move rfl) (ol_pure rfl (op_add rfl rfl (by omega) (by omega)) (ol_pure rfl (op_assign rfl) (ol_nil ?_)))))
    refine pq_loop _ _ (by exact (by
        have hpx : p xs[j] = false := by simpa using h29
        refine ⟨i + 1, j + 1, _, rfl, by omega, by omega, rfl, by simp [hus], by rw [hfs, hpx]; simp; omega, ?_, ?_, hS⟩
        · rw [Nat.mul_one, hfs, hpx, List.map_append, ← hpre]
          have hiu : i < us.length := by omega
          rw [List.take_succ_eq_append_getElem (by simpa using hiu), List.take_set_of_le (Nat.le_refl i)]
          simp
        · rw [Nat.mul_one, List.drop_set_of_lt (by omega), ← List.drop_drop, hdr, ← List.map_drop, List.drop_drop])) ((Sub.cons rfl (Sub.cons rfl (Sub.cons rfl (Sub.cons rfl Sub.nil))))) (by omega)
   ·
    try simp only [dqT, dqF, dq1, dq2, dq3, dq4, dq5] at h29
    refine cw_skip (pq_in_normal (pq_then (cw_region (ol_pure rfl (op_move rfl) (ol_pure rfl (op_add rfl rfl (by omega) (by omega)) (ol_pure rfl (op_assign rfl) (ol_nil ?_)))))))
    refine pq_loop _ _ (by exact (by
        have hpx : p xs[j] = true := by simpa using h29
        refine ⟨i, j + 1, us, rfl, by omega, by omega, rfl, hus, by rw [hfs, hpx]; simpa using hi, by rw [hfs, hpx]; simpa using hpre, ?_, hS⟩
        rw [← List.drop_drop, hdr, ← List.map_drop, List.drop_drop])) ((Sub.cons rfl (Sub.cons rfl (Sub.cons rfl (Sub.cons rfl Sub.nil))))) (by omega)
  ·
   try simp only [dqT, dqF, dq1, dq2, dq3, dq4, dq5] at h19
   have hjn : xs.take j = xs := List.take_of_length_le (by omega)
   rw [hjn] at hi hpre
   refine cw_exit (pq_exit (pq_exit (pq_in_exit (pq_then (cw_seq (cw_region (ol_pure rfl (op_move rfl) ?_)))))))
   refine ol_pure rfl (op_move rfl) (ol_pure rfl (op_slice_l sl_26 rfl rfl (by omega)) ?_)
   refine ol_step0  (op_clear (j := 0) (k := i) (nl := xs.length - i) hS sl_26 el_3 rfl rfl rfl rfl rfl (by omega) (by
     by_cases hci : c = i
     · exact .inl (by omega)
     · exact .inr (by simp [hci]))) ?_
   clear hS
   rintro _ w hS; (try simp only [List.nil_append, List.cons_append, List.set] at hS)
   refine ol_nil (pq_then (cw_seq (cw_region (ol_pure rfl (op_move rfl) (ol_pure rfl (op_move rfl) (ol_pure rfl (op_slice_h sl_26 rfl rfl (by omega)) (ol_pure rfl (op_assign rfl) ?_)))))))
   refine ol_nil (pq_then (cw_ret (ret1 rfl rfl ?_)))
   rw [← hi]
   refine ⟨by split <;> cases oa <;> simp [add_zero''], ?_⟩
   have hs2 := hS.shorten (j := 0) rfl (i := i) (by omega)
   simp only [List.set] at hs2
   rw [Nat.mul_one, List.take_append_of_le_length (by simp; omega), List.take_take, Nat.min_self, hpre] at hs2
   exact hs2
end Go.Proofs.Ytnmkffkalnkbbaa.K
