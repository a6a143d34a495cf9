/-
  Functions of the library on slices of numbers and of rules: where something is, whether it is, whether two are alike.
  No condition but the premises that each theorem names.
-/
import Derived.Test.YtmkgechdfimfnaaBase
import Derived.Test.YtmkgechdfimfnaaMap
import Derived.Test.YtmkgechdfimfnaaMeet
import Derived.Test.YtmkgechdfimfnaaPlj
namespace Go.Proofs.Ytmkgechdfimfnaa.K
open Go Go.RowKit
set_option linter.unusedVariables false
set_option linter.unusedSimpArgs false

open Pl
theorem SS.fcell {G0 G : GH} {w0 w : World} {M : List Ent} (_ : SS G0 w0 G M w) {a : Addr} {v : Value} (hc : w.cell? a = some v) : K.gcell (fullG w) a = some v := hc
/-- A block of the call's own, handed on. -/
theorem SS.giveB {G0 G : GH} {w0 w : World} {M : List Ent} (pre : List Ent) {b : Nat} {T : TypeId} {cs : List Value} (h : SS G0 w0 G (pre ++ .blk b T cs :: M) w) :
    ∃ F G', (∀ (k : Nat) (u : Value), cs[k]? = some u → K.gcell F ((⟨b, 0, none⟩ : Addr).add k) = some u) ∧ (∀ b, b < w0.heap.size → F b = none) ∧ Le F G' ∧ Le G G' ∧ SS G0 w0 G' (pre ++ M) w := by
  have hx : Ent.blk b T cs ∈ pre ++ Ent.blk b T cs :: M := by simp
  refine ⟨oneG w (some b), _, fun k u hu => ?_, fun b' hb' => ?_, joinG_right h.hold (oneG_holds _ _), joinG_left _ _, h.pub pre⟩
  · have hs : w.heap[b]? = some (.cells cs.toArray T (0, 0)) := h.own _ hx
    unfold K.gcell
    rw [show ((⟨b, 0, none⟩ : Addr).add k) = ⟨b, k, none⟩ from by rw [Addr.add_lit]; simp]
    simp [oneG, hs, hu]
  · unfold oneG
    rw [if_neg]
    intro hfp
    have := (h.new _ hx b' hfp).2
    omega

set_option maxRecDepth 100000 in

theorem slices_IndexFunc_c (G : GH) (w0 : World) (hG : Holds G w0) (v : Value) (xs : List Int) (h1 : RSl 1 EInt G v xs) (p : Int → Bool) (fid : FuncId) (caps : List Value) (hcf : CF Try.prog fid) (hp : ∀ w, Below w0.heap.size w0 w → ∀ x ∈ xs, Calls Try.prog fid (.int .i64 x :: caps).toArray w (Sc w (.bool (p x)))) :
   Calls Try.prog 47 #[v, .func (.func fid) #[] caps.toArray] w0 (Sc w0 (.int .i64 (findP p xs))) := by
 obtain ⟨oa, c, rfl, hlc, hcm⟩ := h1.elim
 have hle := h1.le
 refine enter Try.func47 rfl (N := 19) rfl (Nat.le_of_ble_eq_true rfl) ?_
 have hS := SS.init hG
 refine cw_seq ?_
 refine cw_region ?_
 refine ol_pure rfl (op_assign rfl) ?_
 refine ol_nil ?_
 refine pq_then ?_
 refine cw_seq ?_
 refine cw_seq ?_
 refine cw_region ?_
 refine ol_pure rfl (op_move rfl) ?_
 refine ol_pure rfl (op_len sl_28 rfl rfl) ?_
 refine ol_pure rfl (op_move rfl) ?_
 refine ol_nil ?_
 refine pq_then ?_
 refine cw_block ?_
 refine cw_loop (fun e w n => ∃ k : Nat, e = [(0, .slice oa xs.length c), (1, .func (.func fid) #[] caps.toArray), (7, .int .i64 (xs.length : Nat)), (8, .int .i64 (k : Nat))] ∧ k ≤ xs.length ∧ n = xs.length - k ∧ (∀ (i : Nat) (hi : i < xs.length), i < k → p xs[i] = false) ∧ SS G w0 G [] w) _ _ (by exact ⟨0, rfl, Nat.zero_le _, rfl, (fun i _ h => absurd h (Nat.not_lt_zero _)), hS⟩) ((Sub.cons rfl (Sub.cons rfl (Sub.cons rfl (Sub.cons rfl Sub.nil))))) ?_
 clear hS
 rintro e w n ⟨k, rfl, hk, rfl, hno, hS⟩
 refine cw_seq ?_
 refine cw_region ?_
 refine ol_pure rfl (op_lss rfl rfl) ?_
 refine ol_nil ?_
 refine pq_then ?_
 refine cw_seq ?_
 refine cw_cond rfl (fun h9 => ?_) (fun h9 => ?_)
 ·
  skip
  try simp only [decide_eq_true_eq, decide_eq_false_iff_not, Bool.not_eq_true', Bool.not_eq_false', Bool.not_eq_eq_eq_not, Bool.not_true, Bool.not_false] at h9
  have hlt : k < xs.length := by omega
  obtain ⟨hoa, hc, hb⟩ := h1.int hlt
  refine cw_skip ?_
  refine pq_then ?_
  refine cw_seq ?_
  refine cw_block ?_
  refine cw_seq ?_
  refine cw_region ?_
  refine ol_pure rfl (op_move rfl) ?_
  refine ol_pure rfl (op_assign rfl) ?_
  refine ol_nil ?_
  refine pq_then ?_
  refine cw_seq ?_
  refine cw_region ?_
  refine ol_pure rfl (op_move rfl) ?_
  refine ol_pure rfl (op_move rfl) ?_
  refine ol_pure rfl (op_move rfl) ?_
  refine ol_pure rfl (op_indexN sl_28 rfl rfl (by omega) (by assumption)) ?_
  refine ol_load rfl (op_load1 one_3 rfl (fun w hw => by first | exact hw.gcell (by assumption) | exact hw.gcell0 (by assumption))) hS ?_
  refine ol_step rfl (op_callv_sc (fs := []) hS hcf rfl rfl (hp _ hS.below _ (List.getElem_mem hlt))) ?_
  clear hS
  rintro _ w ⟨rfl, hS⟩
  refine ol_nil ?_
  refine pq_then ?_
  refine cw_cond rfl (fun h16 => ?_) (fun h16 => ?_)
  ·
   skip
   try simp only [decide_eq_true_eq, decide_eq_false_iff_not, Bool.not_eq_true', Bool.not_eq_false', Bool.not_eq_eq_eq_not, Bool.not_true, Bool.not_false] at h16
   refine cw_seq ?_
   refine cw_region ?_
   refine ol_pure rfl (op_move rfl) ?_
   refine ol_pure rfl (op_assign rfl) ?_
   refine ol_nil ?_
   refine pq_then ?_
   refine cw_ret ?_
   refine pq_in_ret ?_
   refine pq_ret ?_
   refine pq_ret ?_
   refine pq_in_ret ?_
   refine pq_ret ?_
   refine ret1 rfl rfl ?_
   exact hS.sc_i (findP_at hlt (by simpa using h16) hno).symm
  ·
   skip
   try simp only [decide_eq_true_eq, decide_eq_false_iff_not, Bool.not_eq_true', Bool.not_eq_false', Bool.not_eq_eq_eq_not, Bool.not_true, Bool.not_false] at h16
   refine cw_skip ?_
   refine pq_in_normal ?_
   refine pq_then ?_
   refine cw_region ?_
   refine ol_pure rfl (op_add rfl rfl (by omega) (by omega)) ?_
   refine ol_pure rfl (op_move rfl) ?_
   refine ol_nil ?_
   refine pq_loop _ _ (by exact ⟨k + 1, rfl, by omega, rfl, (fun i hi hik => by rcases Nat.lt_succ_iff_lt_or_eq.1 hik with hh | rfl; exact hno i hi hh; simpa using h16), hS⟩) ((Sub.cons rfl (Sub.cons rfl (Sub.cons rfl (Sub.cons rfl Sub.nil))))) (by omega)
 ·
  skip
  try simp only [decide_eq_true_eq, decide_eq_false_iff_not, Bool.not_eq_true', Bool.not_eq_false', Bool.not_eq_eq_eq_not, Bool.not_true, Bool.not_false] at h9
  refine cw_exit ?_
  refine pq_exit ?_
  refine pq_exit ?_
  refine pq_in_exit ?_
  refine pq_then ?_
  refine cw_seq ?_
  refine cw_region ?_
  refine ol_pure rfl (op_assign rfl) ?_
  refine ol_nil ?_
  refine pq_then ?_
  refine cw_ret ?_
  refine ret1 rfl rfl ?_
  exact hS.sc_i (findP_none (by omega) hno).symm
set_option maxRecDepth 100000 in

theorem slices_ContainsFunc_c (G : GH) (w0 : World) (hG : Holds G w0) (v : Value) (xs : List Int) (h1 : RSl 1 EInt G v xs) (p : Int → Bool) (fid : FuncId) (caps : List Value) (hcf : CF Try.prog fid) (hp : ∀ w, Below w0.heap.size w0 w → ∀ x ∈ xs, Calls Try.prog fid (.int .i64 x :: caps).toArray w (Sc w (.bool (p x)))) :
   Calls Try.prog 49 #[v, .func (.func fid) #[] caps.toArray] w0 (Sc w0 (.bool (xs.any p))) := by
 obtain ⟨oa, c, rfl, hlc, hcm⟩ := h1.elim
 refine enter Try.func49 rfl (N := 9) rfl (Nat.le_of_ble_eq_true rfl) ?_
 have hS := SS.init hG
 refine cw_seq ?_
 refine cw_region ?_
 refine ol_pure rfl (op_assign rfl) ?_
 refine ol_nil ?_
 refine pq_then ?_
 refine cw_seq ?_
 refine cw_region ?_
 refine ol_pure rfl (op_move rfl) ?_
 refine ol_pure rfl (op_move rfl) ?_
 refine ol_step rfl (op_call_sc hS cf_47 rfl (slices_IndexFunc_c G _ hS.hold _ xs h1 p fid caps hcf (fun w hB => hp w (hS.below.trans (hB.mono hS.below.size))))) ?_
 clear hS
 rintro _ w ⟨rfl, hS⟩
 refine ol_pure rfl (op_geq rfl rfl) ?_
 refine ol_pure rfl (op_assign rfl) ?_
 refine ol_nil ?_
 refine pq_then ?_
 refine cw_ret ?_
 refine ret1 rfl rfl ?_
 exact hS.sc_b (findP_any p xs)
set_option maxRecDepth 100000 in

theorem slices_IndexFunc_Rule_c (G : GH) (w0 : World) (hG : Holds G w0) (v : Value) (xs : List Rule) (h1 : RSl 3 ERule G v xs) (p : Rule → Bool) (fid : FuncId) (caps : List Value) (hcf : CF Try.prog fid) (hp : ∀ w, Below w0.heap.size w0 w → ∀ r ∈ xs, ∀ a b, RSl 1 EInt G a r.pos → RSl 1 EInt G b r.neg → Calls Try.prog fid (.agg #[.int .i64 r.head, a, b] :: caps).toArray w (Sc w (.bool (p r)))) :
   Calls Try.prog 33 #[v, .func (.func fid) #[] caps.toArray] w0 (Sc w0 (.int .i64 (findP p xs))) := by
 obtain ⟨oa, c, rfl, hlc, hcm⟩ := h1.elim
 have hle := h1.le
 refine enter Try.func33 rfl (N := 19) rfl (Nat.le_of_ble_eq_true rfl) ?_
 have hS := SS.init hG
 refine cw_seq ?_
 refine cw_region ?_
 refine ol_pure rfl (op_assign rfl) ?_
 refine ol_nil ?_
 refine pq_then ?_
 refine cw_seq ?_
 refine cw_seq ?_
 refine cw_region ?_
 refine ol_pure rfl (op_move rfl) ?_
 refine ol_pure rfl (op_len sl_22 rfl rfl) ?_
 refine ol_pure rfl (op_move rfl) ?_
 refine ol_nil ?_
 refine pq_then ?_
 refine cw_block ?_
 refine cw_loop (fun e w n => ∃ k : Nat, e = [(0, .slice oa xs.length c), (1, .func (.func fid) #[] caps.toArray), (7, .int .i64 (xs.length : Nat)), (8, .int .i64 (k : Nat))] ∧ k ≤ xs.length ∧ n = xs.length - k ∧ (∀ (i : Nat) (hi : i < xs.length), i < k → p xs[i] = false) ∧ SS G w0 G [] w) _ _ (by exact ⟨0, rfl, Nat.zero_le _, rfl, (fun i _ h => absurd h (Nat.not_lt_zero _)), hS⟩) ((Sub.cons rfl (Sub.cons rfl (Sub.cons rfl (Sub.cons rfl Sub.nil))))) ?_
 clear hS
 rintro e w n ⟨k, rfl, hk, rfl, hno, hS⟩
 refine cw_seq ?_
 refine cw_region ?_
 refine ol_pure rfl (op_lss rfl rfl) ?_
 refine ol_nil ?_
 refine pq_then ?_
 refine cw_seq ?_
 refine cw_cond rfl (fun h9 => ?_) (fun h9 => ?_)
 ·
  skip
  try simp only [decide_eq_true_eq, decide_eq_false_iff_not, Bool.not_eq_true', Bool.not_eq_false', Bool.not_eq_eq_eq_not, Bool.not_true, Bool.not_false] at h9
  have hlt : k < xs.length := by omega
  obtain ⟨hoa, cs, hcl, ⟨va, vb, rfl, ha, hb, hhd⟩, hcells⟩ := h1.el hlt
  refine cw_skip ?_
  refine pq_then ?_
  refine cw_seq ?_
  refine cw_block ?_
  refine cw_seq ?_
  refine cw_region ?_
  refine ol_pure rfl (op_move rfl) ?_
  refine ol_pure rfl (op_assign rfl) ?_
  refine ol_nil ?_
  refine pq_then ?_
  refine cw_seq ?_
  refine cw_region ?_
  refine ol_pure rfl (op_move rfl) ?_
  refine ol_pure rfl (op_move rfl) ?_
  refine ol_pure rfl (op_move rfl) ?_
  refine ol_pure rfl (op_indexN sl_22 rfl rfl (by omega) (by assumption)) ?_
  refine ol_load rfl (op_loadN agg_30 rfl (by rfl) (fun w hw k u hk => hw.gcell0 (hcells k u hk))) hS ?_
  refine ol_step rfl (op_callv_sc (fs := []) hS hcf rfl rfl (hp _ hS.below _ (List.getElem_mem hlt) _ _ ha hb)) ?_
  clear hS
  rintro _ w ⟨rfl, hS⟩
  refine ol_nil ?_
  refine pq_then ?_
  refine cw_cond rfl (fun h16 => ?_) (fun h16 => ?_)
  ·
   skip
   try simp only [decide_eq_true_eq, decide_eq_false_iff_not, Bool.not_eq_true', Bool.not_eq_false', Bool.not_eq_eq_eq_not, Bool.not_true, Bool.not_false] at h16
   refine cw_seq ?_
   refine cw_region ?_
   refine ol_pure rfl (op_move rfl) ?_
   refine ol_pure rfl (op_assign rfl) ?_
   refine ol_nil ?_
   refine pq_then ?_
   refine cw_ret ?_
   refine pq_in_ret ?_
   refine pq_ret ?_
   refine pq_ret ?_
   refine pq_in_ret ?_
   refine pq_ret ?_
   refine ret1 rfl rfl ?_
   exact hS.sc_i (findP_at hlt (by simpa using h16) hno).symm
  ·
   skip
   try simp only [decide_eq_true_eq, decide_eq_false_iff_not, Bool.not_eq_true', Bool.not_eq_false', Bool.not_eq_eq_eq_not, Bool.not_true, Bool.not_false] at h16
   refine cw_skip ?_
   refine pq_in_normal ?_
   refine pq_then ?_
   refine cw_region ?_
   refine ol_pure rfl (op_add rfl rfl (by omega) (by omega)) ?_
   refine ol_pure rfl (op_move rfl) ?_
   refine ol_nil ?_
   refine pq_loop _ _ (by exact ⟨k + 1, rfl, by omega, rfl, (fun i hi hik => by rcases Nat.lt_succ_iff_lt_or_eq.1 hik with hh | rfl; exact hno i hi hh; simpa using h16), hS⟩) ((Sub.cons rfl (Sub.cons rfl (Sub.cons rfl (Sub.cons rfl Sub.nil))))) (by omega)
 ·
  skip
  try simp only [decide_eq_true_eq, decide_eq_false_iff_not, Bool.not_eq_true', Bool.not_eq_false', Bool.not_eq_eq_eq_not, Bool.not_true, Bool.not_false] at h9
  refine cw_exit ?_
  refine pq_exit ?_
  refine pq_exit ?_
  refine pq_in_exit ?_
  refine pq_then ?_
  refine cw_seq ?_
  refine cw_region ?_
  refine ol_pure rfl (op_assign rfl) ?_
  refine ol_nil ?_
  refine pq_then ?_
  refine cw_ret ?_
  refine ret1 rfl rfl ?_
  exact hS.sc_i (findP_none (by omega) hno).symm
end Go.Proofs.Ytmkgechdfimfnaa.K
