/-
  The document of layer 18: rules in order, programs that are made of any rules.
  No condition but the premises that each theorem names.
-/
import Derived.Test.YtmkgechdfimfnaaJslices
import Derived.Test.YtmkgechdfimfnaaPln
import Derived.Test.YtmkgechdfimfnaaRef17
namespace Go.Proofs.Ytmkgechdfimfnaa.K
open Go Go.RowKit
set_option linter.unusedVariables false
set_option linter.unusedSimpArgs false

open Pl
theorem and16 (x : Int) : bits .and .i64 x 65535 = x % 65536 := by
  show IntKind.i64.wrap ((BitVec.ofInt 64 x &&& BitVec.ofInt 64 65535).toNat : Int) = _
  have h2 : (BitVec.ofInt 64 65535).toNat = 65535 := by decide
  have h3 : (BitVec.ofInt 64 x).toNat &&& 65535 = (BitVec.ofInt 64 x).toNat % 65536 := Nat.and_two_pow_sub_one_eq_mod _ 16
  rw [BitVec.toNat_and, h2, h3, BitVec.toNat_ofInt, IntWalk.i64_in _ ⟨by omega, by omega⟩]
  omega
theorem wrap_u8 {a : Int} (h : 0 ≤ a ∧ a ≤ 255) : IntKind.i64.wrap a = a := by
  simp [IntKind.wrap, IntKind.signed, IntKind.bits]
  omega
/-- The cells of a row that is read. -/
theorem cells_aux {α : Type} {sz : Nat} {E : ER α} {G : GH} {oa : Option Addr} (hE1 : ∀ G cs x, E G cs x → ∀ u ∈ cs, u.oneCell' = true) : ∀ (xs : List α) (o : Nat),
    (∀ (i : Nat) (x : α), xs[i]? = some x → oa.isSome = true ∧ ∃ cs : List Value, cs.length = sz ∧ E G cs x ∧ ∀ (k : Nat) (u : Value), cs[k]? = some u → gcell G (elA oa ((o + i) * sz + k)) = some u) →
    ∃ us, Rows sz E G us xs ∧ (∀ u ∈ us, u.oneCell' = true) ∧ ∀ (k : Nat) (u : Value), us[k]? = some u → oa.isSome = true ∧ gcell G (elA oa (o * sz + k)) = some u
  | [], _, _ => ⟨[], .nil _, by simp, by simp⟩
  | x :: xs, o, h => by
    obtain ⟨h1, cs, h2, h3, h4⟩ := h 0 x rfl
    obtain ⟨us, h5, h6, h7⟩ := cells_aux hE1 xs (o + 1) (fun i y hy => by
      obtain ⟨g1, c, g2, g3, g4⟩ := h (i + 1) y (by simpa using hy)
      exact ⟨g1, c, g2, g3, fun k u hu => by rw [show o + 1 + i = o + (i + 1) from by omega]; exact g4 k u hu⟩)
    refine ⟨cs ++ us, ?_, fun u hu => ?_, fun k u hu => ?_⟩
    · have := ((Rows.nil (sz := sz) (E := E) G).snoc h2 h3).app h5
      simpa using this
    · rcases List.mem_append.1 hu with hu | hu
      · exact hE1 _ _ _ h3 u hu
      · exact h6 u hu
    · by_cases hk : k < cs.length
      · rw [List.getElem?_append_left hk] at hu
        have := h4 k u hu
        rw [Nat.add_zero] at this
        exact ⟨h1, this⟩
      · rw [List.getElem?_append_right (by omega)] at hu
        obtain ⟨g1, g2⟩ := h7 _ u hu
        refine ⟨g1, ?_⟩
        rw [show (o + 1) * sz + (k - cs.length) = o * sz + k from by rw [Nat.add_mul]; omega] at g2
        exact g2
theorem RSl.cells {α : Type} {sz : Nat} {E : ER α} {G : GH} {oa : Option Addr} {n c : Nat} {xs : List α} (hE1 : ∀ G cs x, E G cs x → ∀ u ∈ cs, u.oneCell' = true) (h : RSl sz E G (.slice oa n c) xs) : ∃ us, Rows sz E G us xs ∧ (∀ u ∈ us, u.oneCell' = true) ∧ ∀ (k : Nat) (u : Value), us[k]? = some u → oa.isSome = true ∧ gcell G (elA oa k) = some u := by
  obtain ⟨us, h1, h2, h3⟩ := cells_aux hE1 xs 0 (fun i x hx => by
    obtain ⟨g1, cs, g2, g3, g4⟩ := h.at_ hx
    exact ⟨g1, cs, g2, g3, fun k u hu => by rw [Nat.zero_add]; exact g4 k u hu⟩)
  exact ⟨us, h1, h2, fun k u hu => by have := h3 k u hu; rw [Nat.zero_mul, Nat.zero_add] at this; exact this⟩
theorem ERule.one : ∀ G cs x, ERule G cs x → ∀ u ∈ cs, u.oneCell' = true := fun G cs x ⟨p, q, h1, h2, h3, _⟩ u hu => by
  subst h1
  simp only [List.mem_cons, List.not_mem_nil, or_false] at hu
  rcases hu with rfl | rfl | rfl
  · rfl
  · exact h2.one
  · exact h3.one
theorem SS.give' {G0 G : GH} {w0 w : World} {M : List Ent} {α : Type} {E : ER α} (zs : List α) (pre : List Ent) {oa : Option Addr} {n c : Nat} {T : TypeId} {sz : Nat} {xs : List Value} (hE : EMono E) (h : SS G0 w0 G (pre ++ .row oa n c T sz xs :: M) w) (hsz : 0 < sz) (hr : Rows sz E G xs zs) (hn : n = zs.length) :
    ∃ G', Le G G' ∧ SS G0 w0 G' (pre ++ M) w ∧ RSl sz E G' (.slice oa n c) zs := h.give pre hsz hE hr hn
theorem oneInt (G : GH) (x : Int) (h : -9223372036854775808 ≤ x ∧ x ≤ 9223372036854775807) : Rows 1 EInt G [.int .i64 x] [x] := Rows.of_map (xs := [x]) (f := Value.int .i64) (fun y hy => by
  have : y = x := by simpa using hy
  subst this
  exact ⟨rfl, h⟩)

set_option maxRecDepth 100000 in

theorem R18_less_c (G : GH) (w0 : World) (hG : Holds G w0) (v u : Value) (a b : List Int) (h1 : RSl 1 EInt G v a) (h2 : RSl 1 EInt G u b) :
   Calls Try.prog 58 #[v, u] w0 (Sc w0 (.int .i64 (lessI a b))) := by
 obtain ⟨oa, c, rfl, hlc, hcm⟩ := h1.elim
 obtain ⟨ob, d, rfl, hld, hdm⟩ := h2.elim
 have hle := h1.le
 have hle2 := h2.le
 refine enter Try.func58 rfl (N := 46) rfl (Nat.le_of_ble_eq_true rfl) ?_
 have hS := SS.init hG
 refine cw_seq ?_
 refine cw_region ?_
 refine ol_pure rfl (op_assign rfl) ?_
 refine ol_nil ?_
 refine pq_then ?_
 refine cw_seq ?_
 refine cw_seq ?_
 refine cw_region ?_
 refine ol_pure rfl (op_assign rfl) ?_
 refine ol_nil ?_
 refine pq_then ?_
 refine cw_block ?_
 refine cw_loop (fun e w n => ∃ k : Nat, e = [(0, .slice oa a.length c), (1, .slice ob b.length d), (5, .int .i64 (k : Nat))] ∧ k ≤ a.length ∧ k ≤ b.length ∧ n = a.length - k ∧ lessI a b = lessI (a.drop k) (b.drop k) ∧ SS G w0 G [] w) _ _ (by exact ⟨0, rfl, Nat.zero_le _, Nat.zero_le _, rfl, rfl, hS⟩) ((Sub.cons rfl (Sub.cons rfl (Sub.cons rfl Sub.nil)))) ?_
 clear hS
 rintro e w n ⟨k, rfl, hk, hk2, rfl, hp, hS⟩
 refine cw_seq ?_
 refine cw_seq ?_
 refine cw_region ?_
 refine ol_pure rfl (op_move rfl) ?_
 refine ol_pure rfl (op_move rfl) ?_
 refine ol_pure rfl (op_len sl_28 rfl rfl) ?_
 refine ol_pure rfl (op_lss rfl rfl) ?_
 refine ol_pure rfl (op_move rfl) ?_
 refine ol_split (fun h10 => ?_) (fun h10 => ?_)
 ·
  skip
  try simp only [decide_eq_true_eq, decide_eq_false_iff_not, Bool.not_eq_true', Bool.not_eq_false', Bool.not_eq_eq_eq_not, Bool.not_true, Bool.not_false] at h10
  refine ol_guard_pure rfl rfl rfl (op_move rfl) ?_
  refine ol_guard_pure rfl rfl rfl (op_move rfl) ?_
  refine ol_guard_pure rfl rfl rfl (op_len sl_28 rfl rfl) ?_
  refine ol_guard_pure rfl rfl rfl (op_lss rfl rfl) ?_
  refine ol_pure rfl (op_pick_t rfl rfl) ?_
  refine ol_nil ?_
  refine pq_then ?_
  refine cw_cond rfl (fun h15 => ?_) (fun h15 => ?_)
  ·
   skip
   try simp only [decide_eq_true_eq, decide_eq_false_iff_not, Bool.not_eq_true', Bool.not_eq_false', Bool.not_eq_eq_eq_not, Bool.not_true, Bool.not_false] at h15
   have ha : k < a.length := by omega
   have hb : k < b.length := by omega
   obtain ⟨hoa, hc1, hb1⟩ := h1.int ha
   obtain ⟨hob, hc2, hb2⟩ := h2.int hb
   refine cw_skip ?_
   refine pq_then ?_
   refine cw_seq ?_
   refine cw_block ?_
   refine cw_seq ?_
   refine cw_seq ?_
   refine al_start' hS (hS.take 0) (by kernel_rfl) rfl (fun w hS hT => ?_)
   refine al_take (i := 0) rfl (by kernel_rfl) (by kernel_rfl) (by kernel_rfl) rfl (fun _ _ _ h => h) (op_move rfl) rfl ?_
   refine al_take (i := 1) rfl (by kernel_rfl) (by kernel_rfl) (by kernel_rfl) rfl (fun _ _ _ h => h) (op_move rfl) rfl ?_
   refine al_take (i := 2) rfl (by kernel_rfl) (by kernel_rfl) (by kernel_rfl) rfl (fun _ _ _ h => h) (op_indexN sl_28 rfl rfl (by omega) hoa) rfl ?_
   refine al_load (i := 3) rfl (by kernel_rfl) (by kernel_rfl) (by kernel_rfl) rfl (fun _ _ _ h => h) (by exact op_load1 one_3 rfl (fun w hw => hw.gcell hc1)) rfl hT ?_
   refine al_take (i := 4) rfl (by kernel_rfl) (by kernel_rfl) (by kernel_rfl) rfl (fun _ _ _ h => h) (op_move rfl) rfl ?_
   refine al_take (i := 5) rfl (by kernel_rfl) (by kernel_rfl) (by kernel_rfl) rfl (fun _ _ _ h => h) (op_move rfl) rfl ?_
   refine al_take (i := 6) rfl (by kernel_rfl) (by kernel_rfl) (by kernel_rfl) rfl (fun _ _ _ h => h) (op_indexN sl_28 rfl rfl (by omega) hob) rfl ?_
   refine al_load (i := 7) rfl (by kernel_rfl) (by kernel_rfl) (by kernel_rfl) rfl (fun _ _ _ h => h) (by exact op_load1 one_3 rfl (fun w hw => hw.gcell hc2)) rfl hT ?_
   refine al_take (i := 8) rfl (by kernel_rfl) (by kernel_rfl) (by kernel_rfl) rfl (fun _ _ _ h => h) (op_lss rfl rfl) rfl ?_
   refine al_done (by kernel_rfl) ?_
   refine pq_then ?_
   refine cw_cond rfl (fun h26 => ?_) (fun h26 => ?_)
   ·
    skip
    try simp only [decide_eq_true_eq, decide_eq_false_iff_not, Bool.not_eq_true', Bool.not_eq_false', Bool.not_eq_eq_eq_not, Bool.not_true, Bool.not_false] at h26
    refine cw_seq ?_
    refine cw_region ?_
    refine ol_pure rfl (op_assign rfl) ?_
    refine ol_nil ?_
    refine pq_then ?_
    refine cw_ret ?_
    refine pq_ret ?_
    refine pq_in_ret ?_
    refine pq_ret ?_
    refine pq_ret ?_
    refine pq_in_ret ?_
    refine pq_ret ?_
    refine ret1 rfl rfl ?_
    exact hS.sc_i (by rw [hp, lessI_at ha hb, if_pos h26])
   ·
    skip
    try simp only [decide_eq_true_eq, decide_eq_false_iff_not, Bool.not_eq_true', Bool.not_eq_false', Bool.not_eq_eq_eq_not, Bool.not_true, Bool.not_false] at h26
    refine cw_skip ?_
    refine pq_then ?_
    refine cw_seq ?_
    refine al_start' hS (hS.take 0) (by kernel_rfl) rfl (fun w hS hT => ?_)
    refine al_take (i := 0) rfl (by kernel_rfl) (by kernel_rfl) (by kernel_rfl) rfl (fun _ _ _ h => h) (op_move rfl) rfl ?_
    refine al_take (i := 1) rfl (by kernel_rfl) (by kernel_rfl) (by kernel_rfl) rfl (fun _ _ _ h => h) (op_move rfl) rfl ?_
    refine al_take (i := 2) rfl (by kernel_rfl) (by kernel_rfl) (by kernel_rfl) rfl (fun _ _ _ h => h) (op_indexN sl_28 rfl rfl (by omega) hoa) rfl ?_
    refine al_load (i := 3) rfl (by kernel_rfl) (by kernel_rfl) (by kernel_rfl) rfl (fun _ _ _ h => h) (by exact op_load1 one_3 rfl (fun w hw => hw.gcell hc1)) rfl hT ?_
    refine al_take (i := 4) rfl (by kernel_rfl) (by kernel_rfl) (by kernel_rfl) rfl (fun _ _ _ h => h) (op_move rfl) rfl ?_
    refine al_take (i := 5) rfl (by kernel_rfl) (by kernel_rfl) (by kernel_rfl) rfl (fun _ _ _ h => h) (op_move rfl) rfl ?_
    refine al_take (i := 6) rfl (by kernel_rfl) (by kernel_rfl) (by kernel_rfl) rfl (fun _ _ _ h => h) (op_indexN sl_28 rfl rfl (by omega) hob) rfl ?_
    refine al_load (i := 7) rfl (by kernel_rfl) (by kernel_rfl) (by kernel_rfl) rfl (fun _ _ _ h => h) (by exact op_load1 one_3 rfl (fun w hw => hw.gcell hc2)) rfl hT ?_
    refine al_take (i := 8) rfl (by kernel_rfl) (by kernel_rfl) (by kernel_rfl) rfl (fun _ _ _ h => h) (op_gtr rfl rfl) rfl ?_
    refine al_done (by kernel_rfl) ?_
    refine pq_then ?_
    refine cw_cond rfl (fun h35 => ?_) (fun h35 => ?_)
    ·
     skip
     try simp only [decide_eq_true_eq, decide_eq_false_iff_not, Bool.not_eq_true', Bool.not_eq_false', Bool.not_eq_eq_eq_not, Bool.not_true, Bool.not_false] at h35
     refine cw_seq ?_
     refine cw_region ?_
     refine ol_pure rfl (op_assign rfl) ?_
     refine ol_nil ?_
     refine pq_then ?_
     refine cw_ret ?_
     refine pq_in_ret ?_
     refine pq_ret ?_
     refine pq_ret ?_
     refine pq_in_ret ?_
     refine pq_ret ?_
     refine ret1 rfl rfl ?_
     exact hS.sc_i (by rw [hp, lessI_at ha hb, if_neg h26, if_pos (by omega)])
    ·
     skip
     try simp only [decide_eq_true_eq, decide_eq_false_iff_not, Bool.not_eq_true', Bool.not_eq_false', Bool.not_eq_eq_eq_not, Bool.not_true, Bool.not_false] at h35
     refine cw_skip ?_
     refine pq_in_normal ?_
     refine pq_then ?_
     refine cw_region ?_
     refine ol_pure rfl (op_move rfl) ?_
     refine ol_pure rfl (op_add rfl rfl (by omega) (by omega)) ?_
     refine ol_pure rfl (op_assign rfl) ?_
     refine ol_nil ?_
     refine pq_loop _ _ (by exact ⟨k + 1, rfl, by omega, by omega, rfl, by rw [hp, lessI_at ha hb, if_neg h26, if_neg (by omega)], hS⟩) ((Sub.cons rfl (Sub.cons rfl (Sub.cons rfl Sub.nil)))) (by omega)
  ·
   skip
   try simp only [decide_eq_true_eq, decide_eq_false_iff_not, Bool.not_eq_true', Bool.not_eq_false', Bool.not_eq_eq_eq_not, Bool.not_true, Bool.not_false] at h15
   refine cw_exit ?_
   refine pq_exit ?_
   refine pq_exit ?_
   refine pq_in_exit ?_
   refine pq_then ?_
   refine cw_seq ?_
   refine cw_seq ?_
   refine cw_region ?_
   refine ol_pure rfl (op_move rfl) ?_
   refine ol_pure rfl (op_len sl_28 rfl rfl) ?_
   refine ol_pure rfl (op_move rfl) ?_
   refine ol_pure rfl (op_len sl_28 rfl rfl) ?_
   refine ol_pure rfl (op_lss rfl rfl) ?_
   refine ol_nil ?_
   refine pq_then ?_
   refine cw_cond rfl (fun h40 => ?_) (fun h40 => ?_)
   ·
    skip
    try simp only [decide_eq_true_eq, decide_eq_false_iff_not, Bool.not_eq_true', Bool.not_eq_false', Bool.not_eq_eq_eq_not, Bool.not_true, Bool.not_false] at h40
    refine cw_seq ?_
    refine cw_region ?_
    refine ol_pure rfl (op_assign rfl) ?_
    refine ol_nil ?_
    refine pq_then ?_
    refine cw_ret ?_
    refine pq_ret ?_
    refine ret1 rfl rfl ?_
    exact hS.sc_i (by rw [hp, lessI_end (by omega) hk hk2, if_pos (by omega)])
   ·
    skip
    try simp only [decide_eq_true_eq, decide_eq_false_iff_not, Bool.not_eq_true', Bool.not_eq_false', Bool.not_eq_eq_eq_not, Bool.not_true, Bool.not_false] at h40
    refine cw_skip ?_
    refine pq_then ?_
    refine cw_seq ?_
    refine cw_seq ?_
    refine cw_region ?_
    refine ol_pure rfl (op_move rfl) ?_
    refine ol_pure rfl (op_len sl_28 rfl rfl) ?_
    refine ol_pure rfl (op_move rfl) ?_
    refine ol_pure rfl (op_len sl_28 rfl rfl) ?_
    refine ol_pure rfl (op_gtr rfl rfl) ?_
    refine ol_nil ?_
    refine pq_then ?_
    refine cw_cond rfl (fun h45 => ?_) (fun h45 => ?_)
    ·
     skip
     try simp only [decide_eq_true_eq, decide_eq_false_iff_not, Bool.not_eq_true', Bool.not_eq_false', Bool.not_eq_eq_eq_not, Bool.not_true, Bool.not_false] at h45
     refine cw_seq ?_
     refine cw_region ?_
     refine ol_pure rfl (op_assign rfl) ?_
     refine ol_nil ?_
     refine pq_then ?_
     refine cw_ret ?_
     refine pq_ret ?_
     refine ret1 rfl rfl ?_
     exact hS.sc_i (by rw [hp, lessI_end (by omega) hk hk2, if_neg (by omega), if_pos (by omega)])
    ·
     skip
     try simp only [decide_eq_true_eq, decide_eq_false_iff_not, Bool.not_eq_true', Bool.not_eq_false', Bool.not_eq_eq_eq_not, Bool.not_true, Bool.not_false] at h45
     refine cw_skip ?_
     refine pq_then ?_
     refine cw_seq ?_
     refine cw_region ?_
     refine ol_pure rfl (op_assign rfl) ?_
     refine ol_nil ?_
     refine pq_then ?_
     refine cw_ret ?_
     refine ret1 rfl rfl ?_
     exact hS.sc_i (by rw [hp, lessI_end (by omega) hk hk2, if_neg (by omega), if_neg (by omega)])
 ·
  skip
  try simp only [decide_eq_true_eq, decide_eq_false_iff_not, Bool.not_eq_true', Bool.not_eq_false', Bool.not_eq_eq_eq_not, Bool.not_true, Bool.not_false] at h10
  refine ol_guard_no rfl rfl rfl rfl ?_
  refine ol_guard_no rfl rfl rfl rfl ?_
  refine ol_guard_no rfl rfl rfl rfl ?_
  refine ol_guard_no rfl rfl rfl rfl ?_
  refine ol_pure rfl (op_pick_f rfl rfl) ?_
  refine ol_nil ?_
  refine pq_then ?_
  refine cw_cond_f rfl ?_
  refine cw_exit ?_
  refine pq_exit ?_
  refine pq_exit ?_
  refine pq_in_exit ?_
  refine pq_then ?_
  refine cw_seq ?_
  refine cw_seq ?_
  refine cw_region ?_
  refine ol_pure rfl (op_move rfl) ?_
  refine ol_pure rfl (op_len sl_28 rfl rfl) ?_
  refine ol_pure rfl (op_move rfl) ?_
  refine ol_pure rfl (op_len sl_28 rfl rfl) ?_
  refine ol_pure rfl (op_lss rfl rfl) ?_
  refine ol_nil ?_
  refine pq_then ?_
  refine cw_cond rfl (fun h40 => ?_) (fun h40 => ?_)
  ·
   skip
   try simp only [decide_eq_true_eq, decide_eq_false_iff_not, Bool.not_eq_true', Bool.not_eq_false', Bool.not_eq_eq_eq_not, Bool.not_true, Bool.not_false] at h40
   refine cw_seq ?_
   refine cw_region ?_
   refine ol_pure rfl (op_assign rfl) ?_
   refine ol_nil ?_
   refine pq_then ?_
   refine cw_ret ?_
   refine pq_ret ?_
   refine ret1 rfl rfl ?_
   exact hS.sc_i (by rw [hp, lessI_end (by omega) hk hk2, if_pos (by omega)])
  ·
   skip
   try simp only [decide_eq_true_eq, decide_eq_false_iff_not, Bool.not_eq_true', Bool.not_eq_false', Bool.not_eq_eq_eq_not, Bool.not_true, Bool.not_false] at h40
   refine cw_skip ?_
   refine pq_then ?_
   refine cw_seq ?_
   refine cw_seq ?_
   refine cw_region ?_
   refine ol_pure rfl (op_move rfl) ?_
   refine ol_pure rfl (op_len sl_28 rfl rfl) ?_
   refine ol_pure rfl (op_move rfl) ?_
   refine ol_pure rfl (op_len sl_28 rfl rfl) ?_
   refine ol_pure rfl (op_gtr rfl rfl) ?_
   refine ol_nil ?_
   refine pq_then ?_
   refine cw_cond rfl (fun h45 => ?_) (fun h45 => ?_)
   ·
    skip
    try simp only [decide_eq_true_eq, decide_eq_false_iff_not, Bool.not_eq_true', Bool.not_eq_false', Bool.not_eq_eq_eq_not, Bool.not_true, Bool.not_false] at h45
    refine cw_seq ?_
    refine cw_region ?_
    refine ol_pure rfl (op_assign rfl) ?_
    refine ol_nil ?_
    refine pq_then ?_
    refine cw_ret ?_
    refine pq_ret ?_
    refine ret1 rfl rfl ?_
    exact hS.sc_i (by rw [hp, lessI_end (by omega) hk hk2, if_neg (by omega), if_pos (by omega)])
   ·
    skip
    try simp only [decide_eq_true_eq, decide_eq_false_iff_not, Bool.not_eq_true', Bool.not_eq_false', Bool.not_eq_eq_eq_not, Bool.not_true, Bool.not_false] at h45
    refine cw_skip ?_
    refine pq_then ?_
    refine cw_seq ?_
    refine cw_region ?_
    refine ol_pure rfl (op_assign rfl) ?_
    refine ol_nil ?_
    refine pq_then ?_
    refine cw_ret ?_
    refine ret1 rfl rfl ?_
    exact hS.sc_i (by rw [hp, lessI_end (by omega) hk hk2, if_neg (by omega), if_neg (by omega)])
set_option maxRecDepth 100000 in

theorem R18_Order_c (G : GH) (w0 : World) (hG : Holds G w0) (a b : Rule) (p q p' q' : Value) (h1 : RSl 1 EInt G p a.pos) (h2 : RSl 1 EInt G q a.neg) (h3 : RSl 1 EInt G p' b.pos) (h4 : RSl 1 EInt G q' b.neg) (ha : -9223372036854775808 ≤ a.head ∧ a.head ≤ 9223372036854775807) (hb : -9223372036854775808 ≤ b.head ∧ b.head ≤ 9223372036854775807) :
   Calls Try.prog 31 #[.agg #[.int .i64 a.head, p, q], .agg #[.int .i64 b.head, p', q']] w0 (Sc w0 (.int .i64 (ordS a b))) := by
 obtain ⟨op, cp, rfl, _, _⟩ := h1.elim
 obtain ⟨oq, cq, rfl, _, _⟩ := h2.elim
 obtain ⟨op2, cp2, rfl, _, _⟩ := h3.elim
 obtain ⟨oq2, cq2, rfl, _, _⟩ := h4.elim
 refine enter Try.func31 rfl (N := 28) rfl (Nat.le_of_ble_eq_true rfl) ?_
 have hS := SS.init hG
 refine cw_seq ?_
 refine cw_region ?_
 refine ol_step rfl (op_box hS rfl rfl) ?_
 clear hS
 rintro _ w ⟨b2, rfl, hS⟩
 refine ol_step rfl (op_box hS rfl rfl) ?_
 clear hS
 rintro _ w ⟨b3, rfl, hS⟩
 refine ol_pure rfl (op_assign rfl) ?_
 refine ol_nil ?_
 refine pq_then ?_
 refine cw_seq ?_
 refine cw_region ?_
 refine ol_pure rfl (op_fieldAddr fld_30_0 rfl) ?_
 refine ol_load rfl (op_load1 one_3 rfl (fun w hw => (hw.bcell (i := 1) rfl).trans rfl)) hS ?_
 refine ol_step rfl (op_buildSlice (el := 3) (is := [0]) (xs := [.tmp 7]) (sz := 1) (cs := [.int .i64 a.head]) hS rfl rfl (fun w => by kernel_rfl) rfl (by decide)) ?_
 clear hS
 rintro _ w ⟨s8, rfl, hS⟩
 refine ol_pure rfl (op_fieldAddr fld_30_0 rfl) ?_
 refine ol_load rfl (op_load1 one_3 rfl (fun w hw => (hw.bcell (i := 1) rfl).trans rfl)) hS ?_
 refine ol_step rfl (op_buildSlice (el := 3) (is := [0]) (xs := [.tmp 10]) (sz := 1) (cs := [.int .i64 b.head]) hS rfl rfl (fun w => by kernel_rfl) rfl (by decide)) ?_
 clear hS
 rintro _ w ⟨s11, rfl, hS⟩
 have hx1 := SS.lend (zs := [a.head]) [_] hS (by decide) EInt.mono (oneInt _ _ ha) rfl
 have hx2 := SS.lend (zs := [b.head]) [] hS (by decide) EInt.mono (oneInt _ _ hb) rfl
 refine ol_step rfl (op_call_sc hS cf_58 rfl (R18_less_c (fullG _) _ (Holds.full _) _ _ [a.head] [b.head] hx1 hx2)) ?_
 clear hS
 rintro _ w ⟨rfl, hS⟩
 refine ol_pure rfl (op_assign rfl) ?_
 refine ol_nil ?_
 refine pq_then ?_
 refine cw_seq ?_
 refine cw_seq ?_
 refine cw_region ?_
 refine ol_pure rfl (op_move rfl) ?_
 refine ol_pure rfl (op_eql rfl rfl) ?_
 refine ol_nil ?_
 refine pq_then ?_
 refine cw_cond rfl (fun h14 => ?_) (fun h14 => ?_)
 ·
  skip
  try simp only [decide_eq_true_eq, decide_eq_false_iff_not, Bool.not_eq_true', Bool.not_eq_false', Bool.not_eq_eq_eq_not, Bool.not_true, Bool.not_false] at h14
  refine cw_region ?_
  refine ol_pure rfl (op_fieldAddr fld_30_1 rfl) ?_
  refine ol_load rfl (op_load1 one_28 rfl (fun w hw => (hw.bcell (i := 3) rfl).trans rfl)) hS ?_
  refine ol_pure rfl (op_fieldAddr fld_30_1 rfl) ?_
  refine ol_load rfl (op_load1 one_28 rfl (fun w hw => (hw.bcell (i := 2) rfl).trans rfl)) hS ?_
  refine ol_step rfl (op_call_sc hS cf_58 rfl (R18_less_c _ _ hS.hold _ _ a.pos b.pos h1 h3)) ?_
  clear hS
  rintro _ w ⟨rfl, hS⟩
  refine ol_pure rfl (op_assign rfl) ?_
  refine ol_nil ?_
  refine pq_then ?_
  refine cw_seq ?_
  refine cw_seq ?_
  refine cw_region ?_
  refine ol_pure rfl (op_move rfl) ?_
  refine ol_pure rfl (op_eql rfl rfl) ?_
  refine ol_nil ?_
  refine pq_then ?_
  refine cw_cond rfl (fun h21 => ?_) (fun h21 => ?_)
  ·
   skip
   try simp only [decide_eq_true_eq, decide_eq_false_iff_not, Bool.not_eq_true', Bool.not_eq_false', Bool.not_eq_eq_eq_not, Bool.not_true, Bool.not_false] at h21
   refine cw_region ?_
   refine ol_pure rfl (op_fieldAddr fld_30_2 rfl) ?_
   refine ol_load rfl (op_load1 one_28 rfl (fun w hw => (hw.bcell (i := 3) rfl).trans rfl)) hS ?_
   refine ol_pure rfl (op_fieldAddr fld_30_2 rfl) ?_
   refine ol_load rfl (op_load1 one_28 rfl (fun w hw => (hw.bcell (i := 2) rfl).trans rfl)) hS ?_
   refine ol_step rfl (op_call_sc hS cf_58 rfl (R18_less_c _ _ hS.hold _ _ a.neg b.neg h2 h4)) ?_
   clear hS
   rintro _ w ⟨rfl, hS⟩
   refine ol_pure rfl (op_assign rfl) ?_
   refine ol_nil ?_
   refine pq_then ?_
   refine cw_seq ?_
   refine cw_region ?_
   refine ol_pure rfl (op_move rfl) ?_
   refine ol_pure rfl (op_assign rfl) ?_
   refine ol_nil ?_
   refine pq_then ?_
   refine cw_ret ?_
   refine ret1 rfl rfl ?_
   exact hS.sc_i (by rw [ordS, if_neg (by simpa using h14), if_neg (by simpa using h21)])
  ·
   skip
   try simp only [decide_eq_true_eq, decide_eq_false_iff_not, Bool.not_eq_true', Bool.not_eq_false', Bool.not_eq_eq_eq_not, Bool.not_true, Bool.not_false] at h21
   refine cw_skip ?_
   refine pq_then ?_
   refine cw_seq ?_
   refine cw_region ?_
   refine ol_pure rfl (op_move rfl) ?_
   refine ol_pure rfl (op_assign rfl) ?_
   refine ol_nil ?_
   refine pq_then ?_
   refine cw_ret ?_
   refine ret1 rfl rfl ?_
   exact hS.sc_i (by rw [ordS, if_neg (by simpa using h14), if_pos h21])
 ·
  skip
  try simp only [decide_eq_true_eq, decide_eq_false_iff_not, Bool.not_eq_true', Bool.not_eq_false', Bool.not_eq_eq_eq_not, Bool.not_true, Bool.not_false] at h14
  refine cw_skip ?_
  refine pq_then ?_
  refine cw_seq ?_
  refine cw_seq ?_
  refine cw_region ?_
  refine ol_pure rfl (op_move rfl) ?_
  refine ol_pure rfl (op_eql rfl rfl) ?_
  refine ol_nil ?_
  refine pq_then ?_
  refine cw_cond rfl (fun h21 => ?_) (fun h21 => ?_)
  ·
   skip
   try simp only [decide_eq_true_eq, decide_eq_false_iff_not, Bool.not_eq_true', Bool.not_eq_false', Bool.not_eq_eq_eq_not, Bool.not_true, Bool.not_false] at h21
   refine cw_region ?_
   refine ol_pure rfl (op_fieldAddr fld_30_2 rfl) ?_
   refine ol_load rfl (op_load1 one_28 rfl (fun w hw => (hw.bcell (i := 3) rfl).trans rfl)) hS ?_
   refine ol_pure rfl (op_fieldAddr fld_30_2 rfl) ?_
   refine ol_load rfl (op_load1 one_28 rfl (fun w hw => (hw.bcell (i := 2) rfl).trans rfl)) hS ?_
   refine ol_step rfl (op_call_sc hS cf_58 rfl (R18_less_c _ _ hS.hold _ _ a.neg b.neg h2 h4)) ?_
   clear hS
   rintro _ w ⟨rfl, hS⟩
   refine ol_pure rfl (op_assign rfl) ?_
   refine ol_nil ?_
   refine pq_then ?_
   refine cw_seq ?_
   refine cw_region ?_
   refine ol_pure rfl (op_move rfl) ?_
   refine ol_pure rfl (op_assign rfl) ?_
   refine ol_nil ?_
   refine pq_then ?_
   refine cw_ret ?_
   refine ret1 rfl rfl ?_
   exact absurd h21 h14
  ·
   skip
   try simp only [decide_eq_true_eq, decide_eq_false_iff_not, Bool.not_eq_true', Bool.not_eq_false', Bool.not_eq_eq_eq_not, Bool.not_true, Bool.not_false] at h21
   refine cw_skip ?_
   refine pq_then ?_
   refine cw_seq ?_
   refine cw_region ?_
   refine ol_pure rfl (op_move rfl) ?_
   refine ol_pure rfl (op_assign rfl) ?_
   refine ol_nil ?_
   refine pq_then ?_
   refine cw_ret ?_
   refine ret1 rfl rfl ?_
   exact hS.sc_i (by rw [ordS, if_pos h14])
set_option maxRecDepth 100000 in
set_option maxHeartbeats 400000 in

theorem R18_set_c (G : GH) (w0 : World) (hG : Holds G w0) (v : Value) (l : List Int) (h1 : RSl 1 EInt G v l) (n0 : Nat) (h0 : 0 < n0) (hn : n0 ≤ 1000) :
   Calls Try.prog 30 #[v, .int .i64 (n0 : Nat)] w0 (Rt noG w0 (fun G v => RSl 1 EInt G v (setS l n0))) := by
 obtain ⟨oa, c, rfl, hlc, hcm⟩ := h1.elim
 refine enter Try.func30 rfl (N := 45) rfl (Nat.le_of_ble_eq_true rfl) ?_
 have hS := SS.init hG
 refine cw_seq ?_
 refine cw_region ?_
 refine ol_pure rfl (op_assign rfl) ?_
 refine ol_nil ?_
 refine pq_then ?_
 refine cw_seq ?_
 refine cw_region ?_
 refine ol_pure rfl (op_move rfl) ?_
 refine ol_step rfl (op_makeSlice (n := n0) hS sl_49 el_4 rfl rfl rfl (by omega) (by unfold maxLen; omega)) ?_
 clear hS
 rintro _ w ⟨has, rfl, hS⟩
 refine ol_pure rfl (op_assign rfl) ?_
 refine ol_nil ?_
 refine pq_then ?_
 refine cw_seq ?_
 refine cw_seq ?_
 refine cw_region ?_
 refine ol_pure rfl (op_assign rfl) ?_
 refine ol_nil ?_
 refine pq_then ?_
 refine cw_block ?_
 refine cw_loop (fun e w n => ∃ k : Nat, e = [(0, .slice oa l.length c), (1, .int .i64 (n0 : Nat)), (5, .slice has n0 n0), (6, .int .i64 (k : Nat))] ∧ k ≤ l.length ∧ k ≤ 4 ∧ n = 4 - k ∧ SS G w0 G [.row has n0 n0 4 1 ((hasS l n0 k).map Value.bool)] w) _ _ (by exact ⟨0, rfl, Nat.zero_le _, Nat.zero_le _, rfl, by rw [hasS_zero]; simpa using hS⟩) ((Sub.cons rfl (Sub.cons rfl (Sub.cons rfl (Sub.cons rfl Sub.nil))))) ?_
 clear hS
 rintro e w n ⟨k, rfl, hk, hk2, rfl, hS⟩
 refine cw_seq ?_
 refine cw_seq ?_
 refine cw_region ?_
 refine ol_pure rfl (op_move rfl) ?_
 refine ol_pure rfl (op_move rfl) ?_
 refine ol_pure rfl (op_len sl_28 rfl rfl) ?_
 refine ol_pure rfl (op_lss rfl rfl) ?_
 refine ol_pure rfl (op_move rfl) ?_
 refine ol_split (fun h15 => ?_) (fun h15 => ?_)
 ·
  skip
  try simp only [decide_eq_true_eq, decide_eq_false_iff_not, Bool.not_eq_true', Bool.not_eq_false', Bool.not_eq_eq_eq_not, Bool.not_true, Bool.not_false] at h15
  refine ol_guard_pure rfl rfl rfl (op_move rfl) ?_
  refine ol_guard_pure rfl rfl rfl (op_lss rfl rfl) ?_
  refine ol_pure rfl (op_pick_t rfl rfl) ?_
  refine ol_nil ?_
  refine pq_then ?_
  refine cw_cond rfl (fun h18 => ?_) (fun h18 => ?_)
  ·
   skip
   try simp only [decide_eq_true_eq, decide_eq_false_iff_not, Bool.not_eq_true', Bool.not_eq_false', Bool.not_eq_eq_eq_not, Bool.not_true, Bool.not_false] at h18
   have hlt : k < l.length := by omega
   obtain ⟨hoa, hc1, hb1⟩ := h1.int hlt
   have hm0 : 0 ≤ l[k] % 65536 % (n0 : Int) := Int.emod_nonneg _ (by omega)
   have hm1 : l[k] % 65536 % (n0 : Int) < n0 := Int.emod_lt_of_pos _ (by omega)
   have hoh := (hS.news (j := 0) rfl (l[k] % 65536 % (n0 : Int)).toNat _ (List.getElem?_eq_getElem (by simp [hasS_len]; omega))).1
   have hss := hasS_succ (n := n0) hlt h0
   refine cw_skip ?_
   refine pq_then ?_
   refine cw_seq ?_
   refine cw_block ?_
   refine cw_region ?_
   refine ol_pure rfl (op_move rfl) ?_
   refine ol_pure rfl (op_move rfl) ?_
   refine ol_pure rfl (op_move rfl) ?_
   refine ol_pure rfl (op_indexN sl_28 rfl rfl (by omega) (by assumption)) ?_
   refine ol_load rfl (op_load1 one_3 rfl (fun w hw => by first | exact hw.gcell (by assumption) | exact hw.gcell0 (by assumption))) hS ?_
   refine ol_pure rfl (op_val (op_and rfl rfl) (congrArg (Value.int .i64) (and16 _))) ?_
   refine ol_pure rfl (op_move rfl) ?_
   refine ol_pure rfl (op_rem rfl rfl (by omega) (by omega)) ?_
   refine ol_pure rfl (op_indexAddr sl_49 rfl rfl (by omega) (by omega) hoh) ?_
   refine ol_step0  (op_storeR (j := 0) (k := (l[k] % 65536 % (n0 : Int)).toNat * 1) hS sz_4 rfl rfl rfl rfl (by simp [hasS_len]; omega)) ?_
   clear hS
   rintro _ w hS; (try simp only [List.nil_append, List.cons_append, List.set] at hS)
   rw [Nat.mul_one, ← List.map_set, ← hss] at hS
   refine ol_nil ?_
   refine pq_in_normal ?_
   refine pq_then ?_
   refine cw_region ?_
   refine ol_pure rfl (op_move rfl) ?_
   refine ol_pure rfl (op_add rfl rfl (by omega) (by omega)) ?_
   refine ol_pure rfl (op_assign rfl) ?_
   refine ol_nil ?_
   refine pq_loop _ _ (by exact ⟨k + 1, rfl, by omega, by omega, rfl, hS⟩) ((Sub.cons rfl (Sub.cons rfl (Sub.cons rfl (Sub.cons rfl Sub.nil))))) (by omega)
  ·
   skip
   try simp only [decide_eq_true_eq, decide_eq_false_iff_not, Bool.not_eq_true', Bool.not_eq_false', Bool.not_eq_eq_eq_not, Bool.not_true, Bool.not_false] at h18
   have hk4 : l.take k = l.take 4 := by
     by_cases h4 : k = 4
     · rw [h4]
     · rw [List.take_of_length_le (by omega : l.length ≤ k), List.take_of_length_le (by omega : l.length ≤ 4)]
   refine cw_exit ?_
   refine pq_exit ?_
   refine pq_exit ?_
   refine pq_in_exit ?_
   refine pq_then ?_
   refine cw_seq ?_
   refine cw_region ?_
   refine ol_step rfl (op_buildSlice (el := 3) (is := []) (xs := []) (sz := 1) (cs := []) hS rfl rfl (fun w => by kernel_rfl) rfl (by decide)) ?_
   clear hS
   rintro _ w ⟨o7, rfl, hS⟩
   refine ol_pure rfl (op_assign rfl) ?_
   refine ol_nil ?_
   refine pq_then ?_
   refine cw_seq ?_
   refine cw_seq ?_
   refine cw_region ?_
   refine ol_pure rfl (op_assign rfl) ?_
   refine ol_nil ?_
   refine pq_then ?_
   refine cw_block ?_
   refine cw_loop (fun e w n => ∃ i o7 l7 c7, e = [(1, .int .i64 (n0 : Nat)), (5, .slice has n0 n0), (7, .slice o7 l7 c7), (8, .int .i64 (i : Nat))] ∧ i ≤ n0 ∧ n = n0 - i ∧ l7 = (pickI (fun i => (l.take 4).any fun x => decide (x % 65536 % (n0 : Int) = i)) i).length ∧ SS G w0 G [.row o7 l7 c7 3 1 ((pickI (fun i => (l.take 4).any fun x => decide (x % 65536 % (n0 : Int) = i)) i).map (Value.int .i64)), .row has n0 n0 4 1 ((hasS l n0 k).map Value.bool)] w) _ _ (by exact ⟨0, o7, 0, _, rfl, Nat.zero_le _, rfl, rfl, hS⟩) ((Sub.cons rfl (Sub.cons rfl (Sub.cons rfl (Sub.cons rfl Sub.nil))))) ?_
   clear hS
   rintro e w n ⟨i, o7, l7, c7, rfl, hi, rfl, hl7, hS⟩
   refine cw_seq ?_
   refine cw_seq ?_
   refine cw_region ?_
   refine ol_pure rfl (op_move rfl) ?_
   refine ol_pure rfl (op_move rfl) ?_
   refine ol_pure rfl (op_lss rfl rfl) ?_
   refine ol_nil ?_
   refine pq_then ?_
   refine cw_cond rfl (fun h33 => ?_) (fun h33 => ?_)
   ·
    skip
    try simp only [decide_eq_true_eq, decide_eq_false_iff_not, Bool.not_eq_true', Bool.not_eq_false', Bool.not_eq_eq_eq_not, Bool.not_true, Bool.not_false] at h33
    have hlt : i < n0 := by omega
    have hpl2 := pickI_len (fun i => (l.take 4).any fun x => decide (x % 65536 % (n0 : Int) = i)) i
    have hoh := hS.news (j := 1) rfl (i * 1) _ (by rw [Nat.mul_one, List.getElem?_map, hasS_at hlt]; rfl)
    refine cw_skip ?_
    refine pq_then ?_
    refine cw_seq ?_
    refine cw_block ?_
    refine cw_seq ?_
    refine cw_region ?_
    refine ol_pure rfl (op_move rfl) ?_
    refine ol_pure rfl (op_move rfl) ?_
    refine ol_pure rfl (op_indexN sl_49 rfl rfl (by omega) hoh.1) ?_
    refine ol_load rfl (op_load1 one_4 rfl (fun w hw => hw.rcell (i := 1) rfl (by rw [Nat.mul_one, List.getElem?_map, hasS_at hlt]; rfl))) hS ?_
    refine ol_nil ?_
    refine pq_then ?_
    refine cw_cond rfl (fun h39 => ?_) (fun h39 => ?_)
    ·
     skip
     try simp only [decide_eq_true_eq, decide_eq_false_iff_not, Bool.not_eq_true', Bool.not_eq_false', Bool.not_eq_eq_eq_not, Bool.not_true, Bool.not_false] at h39
     refine cw_region ?_
     refine ol_pure rfl (op_move rfl) ?_
     refine ol_pure rfl (op_move rfl) ?_
     refine ol_step rfl (op_buildSlice (el := 3) (is := [0]) (xs := [.tmp 41]) (sz := 1) (cs := [.int .i64 (i : Nat)]) hS rfl rfl (fun w => by kernel_rfl) rfl (by decide)) ?_
     clear hS
     rintro _ w ⟨s42, rfl, hS⟩
     refine ol_step rfl (op_append (j := 1) hS sl_28 el_3 rfl rfl rfl rfl rfl rfl (by decide) (hS.news (j := 0) rfl) (by simp [Value.oneCell']) (by omega) (by unfold maxLen; omega)) ?_
     clear hS
     rintro _ w ⟨o7n, c_o7n, rfl, hS⟩; (try simp only [List.nil_append, List.cons_append, List.set] at hS); replace hS := SS.drop [] hS; (try simp only [List.nil_append, List.cons_append] at hS)
     refine ol_pure rfl (op_assign rfl) ?_
     refine ol_nil ?_
     refine pq_in_normal ?_
     refine pq_then ?_
     refine cw_region ?_
     refine ol_pure rfl (op_move rfl) ?_
     refine ol_pure rfl (op_add rfl rfl (by omega) (by omega)) ?_
     refine ol_pure rfl (op_assign rfl) ?_
     refine ol_nil ?_
     refine pq_loop _ _ (by exact (by
         have hpl := pickI_len (fun i => (l.take 4).any fun x => decide (x % 65536 % (n0 : Int) = i)) i
         have he := pickI_t (p := fun i => (l.take 4).any fun x => decide (x % 65536 % (n0 : Int) = i)) (k := i) (by rw [← hk4]; exact h39)
         exact ⟨i + 1, o7n, l7 + 1, c_o7n, rfl, by omega, rfl, by rw [he]; simp [hl7], by rw [he]; simpa using hS⟩)) ((Sub.cons rfl (Sub.cons rfl (Sub.cons rfl (Sub.cons rfl Sub.nil))))) (by omega)
    ·
     skip
     try simp only [decide_eq_true_eq, decide_eq_false_iff_not, Bool.not_eq_true', Bool.not_eq_false', Bool.not_eq_eq_eq_not, Bool.not_true, Bool.not_false] at h39
     refine cw_skip ?_
     refine pq_in_normal ?_
     refine pq_then ?_
     refine cw_region ?_
     refine ol_pure rfl (op_move rfl) ?_
     refine ol_pure rfl (op_add rfl rfl (by omega) (by omega)) ?_
     refine ol_pure rfl (op_assign rfl) ?_
     refine ol_nil ?_
     refine pq_loop _ _ (by exact (by
         have he := pickI_f (p := fun i => (l.take 4).any fun x => decide (x % 65536 % (n0 : Int) = i)) (k := i) (by rw [← hk4]; exact h39)
         exact ⟨i + 1, o7, l7, c7, rfl, by omega, rfl, by rw [he]; exact hl7, by rw [he]; exact hS⟩)) ((Sub.cons rfl (Sub.cons rfl (Sub.cons rfl (Sub.cons rfl Sub.nil))))) (by omega)
   ·
    skip
    try simp only [decide_eq_true_eq, decide_eq_false_iff_not, Bool.not_eq_true', Bool.not_eq_false', Bool.not_eq_eq_eq_not, Bool.not_true, Bool.not_false] at h33
    refine cw_exit ?_
    refine pq_exit ?_
    refine pq_exit ?_
    refine pq_in_exit ?_
    refine pq_then ?_
    refine cw_seq ?_
    refine cw_region ?_
    refine ol_pure rfl (op_move rfl) ?_
    refine ol_pure rfl (op_assign rfl) ?_
    refine ol_nil ?_
    refine pq_then ?_
    refine cw_ret ?_
    refine ret1 rfl rfl ?_
    rw [show i = n0 from by omega] at hS hl7
    exact hS.rt_row [] (by decide) (Rows.ints (l := setS l n0) fun x hx => by have := setS_range hx; omega) EInt.mono hl7
 ·
  skip
  try simp only [decide_eq_true_eq, decide_eq_false_iff_not, Bool.not_eq_true', Bool.not_eq_false', Bool.not_eq_eq_eq_not, Bool.not_true, Bool.not_false] at h15
  have hk4 : l.take k = l.take 4 := by rw [List.take_of_length_le (by omega : l.length ≤ k), List.take_of_length_le (by omega : l.length ≤ 4)]
  refine ol_guard_no rfl rfl rfl rfl ?_
  refine ol_guard_no rfl rfl rfl rfl ?_
  refine ol_pure rfl (op_pick_f rfl rfl) ?_
  refine ol_nil ?_
  refine pq_then ?_
  refine cw_cond_f rfl ?_
  refine cw_exit ?_
  refine pq_exit ?_
  refine pq_exit ?_
  refine pq_in_exit ?_
  refine pq_then ?_
  refine cw_seq ?_
  refine cw_region ?_
  refine ol_step rfl (op_buildSlice (el := 3) (is := []) (xs := []) (sz := 1) (cs := []) hS rfl rfl (fun w => by kernel_rfl) rfl (by decide)) ?_
  clear hS
  rintro _ w ⟨o7, rfl, hS⟩
  refine ol_pure rfl (op_assign rfl) ?_
  refine ol_nil ?_
  refine pq_then ?_
  refine cw_seq ?_
  refine cw_seq ?_
  refine cw_region ?_
  refine ol_pure rfl (op_assign rfl) ?_
  refine ol_nil ?_
  refine pq_then ?_
  refine cw_block ?_
  refine cw_loop (fun e w n => ∃ i o7 l7 c7, e = [(1, .int .i64 (n0 : Nat)), (5, .slice has n0 n0), (7, .slice o7 l7 c7), (8, .int .i64 (i : Nat))] ∧ i ≤ n0 ∧ n = n0 - i ∧ l7 = (pickI (fun i => (l.take 4).any fun x => decide (x % 65536 % (n0 : Int) = i)) i).length ∧ SS G w0 G [.row o7 l7 c7 3 1 ((pickI (fun i => (l.take 4).any fun x => decide (x % 65536 % (n0 : Int) = i)) i).map (Value.int .i64)), .row has n0 n0 4 1 ((hasS l n0 k).map Value.bool)] w) _ _ (by exact ⟨0, o7, 0, _, rfl, Nat.zero_le _, rfl, rfl, hS⟩) ((Sub.cons rfl (Sub.cons rfl (Sub.cons rfl (Sub.cons rfl Sub.nil))))) ?_
  clear hS
  rintro e w n ⟨i, o7, l7, c7, rfl, hi, rfl, hl7, hS⟩
  refine cw_seq ?_
  refine cw_seq ?_
  refine cw_region ?_
  refine ol_pure rfl (op_move rfl) ?_
  refine ol_pure rfl (op_move rfl) ?_
  refine ol_pure rfl (op_lss rfl rfl) ?_
  refine ol_nil ?_
  refine pq_then ?_
  refine cw_cond rfl (fun h33 => ?_) (fun h33 => ?_)
  ·
   skip
   try simp only [decide_eq_true_eq, decide_eq_false_iff_not, Bool.not_eq_true', Bool.not_eq_false', Bool.not_eq_eq_eq_not, Bool.not_true, Bool.not_false] at h33
   have hlt : i < n0 := by omega
   have hpl2 := pickI_len (fun i => (l.take 4).any fun x => decide (x % 65536 % (n0 : Int) = i)) i
   have hoh := hS.news (j := 1) rfl (i * 1) _ (by rw [Nat.mul_one, List.getElem?_map, hasS_at hlt]; rfl)
   refine cw_skip ?_
   refine pq_then ?_
   refine cw_seq ?_
   refine cw_block ?_
   refine cw_seq ?_
   refine cw_region ?_
   refine ol_pure rfl (op_move rfl) ?_
   refine ol_pure rfl (op_move rfl) ?_
   refine ol_pure rfl (op_indexN sl_49 rfl rfl (by omega) hoh.1) ?_
   refine ol_load rfl (op_load1 one_4 rfl (fun w hw => hw.rcell (i := 1) rfl (by rw [Nat.mul_one, List.getElem?_map, hasS_at hlt]; rfl))) hS ?_
   refine ol_nil ?_
   refine pq_then ?_
   refine cw_cond rfl (fun h39 => ?_) (fun h39 => ?_)
   ·
    skip
    try simp only [decide_eq_true_eq, decide_eq_false_iff_not, Bool.not_eq_true', Bool.not_eq_false', Bool.not_eq_eq_eq_not, Bool.not_true, Bool.not_false] at h39
    refine cw_region ?_
    refine ol_pure rfl (op_move rfl) ?_
    refine ol_pure rfl (op_move rfl) ?_
    refine ol_step rfl (op_buildSlice (el := 3) (is := [0]) (xs := [.tmp 41]) (sz := 1) (cs := [.int .i64 (i : Nat)]) hS rfl rfl (fun w => by kernel_rfl) rfl (by decide)) ?_
    clear hS
    rintro _ w ⟨s42, rfl, hS⟩
    refine ol_step rfl (op_append (j := 1) hS sl_28 el_3 rfl rfl rfl rfl rfl rfl (by decide) (hS.news (j := 0) rfl) (by simp [Value.oneCell']) (by omega) (by unfold maxLen; omega)) ?_
    clear hS
    rintro _ w ⟨o7n, c_o7n, rfl, hS⟩; (try simp only [List.nil_append, List.cons_append, List.set] at hS); replace hS := SS.drop [] hS; (try simp only [List.nil_append, List.cons_append] at hS)
    refine ol_pure rfl (op_assign rfl) ?_
    refine ol_nil ?_
    refine pq_in_normal ?_
    refine pq_then ?_
    refine cw_region ?_
    refine ol_pure rfl (op_move rfl) ?_
    refine ol_pure rfl (op_add rfl rfl (by omega) (by omega)) ?_
    refine ol_pure rfl (op_assign rfl) ?_
    refine ol_nil ?_
    refine pq_loop _ _ (by exact (by
        have hpl := pickI_len (fun i => (l.take 4).any fun x => decide (x % 65536 % (n0 : Int) = i)) i
        have he := pickI_t (p := fun i => (l.take 4).any fun x => decide (x % 65536 % (n0 : Int) = i)) (k := i) (by rw [← hk4]; exact h39)
        exact ⟨i + 1, o7n, l7 + 1, c_o7n, rfl, by omega, rfl, by rw [he]; simp [hl7], by rw [he]; simpa using hS⟩)) ((Sub.cons rfl (Sub.cons rfl (Sub.cons rfl (Sub.cons rfl Sub.nil))))) (by omega)
   ·
    skip
    try simp only [decide_eq_true_eq, decide_eq_false_iff_not, Bool.not_eq_true', Bool.not_eq_false', Bool.not_eq_eq_eq_not, Bool.not_true, Bool.not_false] at h39
    refine cw_skip ?_
    refine pq_in_normal ?_
    refine pq_then ?_
    refine cw_region ?_
    refine ol_pure rfl (op_move rfl) ?_
    refine ol_pure rfl (op_add rfl rfl (by omega) (by omega)) ?_
    refine ol_pure rfl (op_assign rfl) ?_
    refine ol_nil ?_
    refine pq_loop _ _ (by exact (by
        have he := pickI_f (p := fun i => (l.take 4).any fun x => decide (x % 65536 % (n0 : Int) = i)) (k := i) (by rw [← hk4]; exact h39)
        exact ⟨i + 1, o7, l7, c7, rfl, by omega, rfl, by rw [he]; exact hl7, by rw [he]; exact hS⟩)) ((Sub.cons rfl (Sub.cons rfl (Sub.cons rfl (Sub.cons rfl Sub.nil))))) (by omega)
  ·
   skip
   try simp only [decide_eq_true_eq, decide_eq_false_iff_not, Bool.not_eq_true', Bool.not_eq_false', Bool.not_eq_eq_eq_not, Bool.not_true, Bool.not_false] at h33
   refine cw_exit ?_
   refine pq_exit ?_
   refine pq_exit ?_
   refine pq_in_exit ?_
   refine pq_then ?_
   refine cw_seq ?_
   refine cw_region ?_
   refine ol_pure rfl (op_move rfl) ?_
   refine ol_pure rfl (op_assign rfl) ?_
   refine ol_nil ?_
   refine pq_then ?_
   refine cw_ret ?_
   refine ret1 rfl rfl ?_
   rw [show i = n0 from by omega] at hS hl7
   exact hS.rt_row [] (by decide) (Rows.ints (l := setS l n0) fun x hx => by have := setS_range hx; omega) EInt.mono hl7
set_option maxRecDepth 100000 in
set_option maxHeartbeats 1000000 in

theorem R18_Rules_c (G : GH) (w0 : World) (hG : Holds G w0) (v : Value) (l : List Rule) (h1 : RSl 3 ERule G v l) (hn : l.length ≤ 1000) :
   Calls Try.prog 12 #[v] w0 (Rt G w0 (fun G v => RSl 3 ERule G v (rulesS l))) := by
 obtain ⟨oa, c, rfl, hlc, hcm⟩ := h1.elim
 refine enter Try.func12 rfl (N := 67) rfl (Nat.le_of_ble_eq_true rfl) ?_
 have hS := SS.init hG
 refine cw_seq ?_
 refine cw_region ?_
 refine ol_pure rfl (op_assign rfl) ?_
 refine ol_nil ?_
 refine pq_then ?_
 refine cw_seq ?_
 refine cw_region ?_
 refine ol_step rfl (op_buildSlice (el := 30) (is := []) (xs := []) (sz := 3) (cs := []) hS rfl rfl (fun w => by kernel_rfl) rfl (by decide)) ?_
 clear hS
 rintro _ w ⟨s7, rfl, hS⟩
 obtain ⟨G1, hl1, hS2, hR1⟩ := SS.give' ([] : List Rule) [] ERule.mono hS (by decide) (Rows.nil _) rfl
 clear hS
 have hS := hS2
 clear hS2
 simp only [List.nil_append] at hS
 refine ol_pure rfl (op_assign rfl) ?_
 refine ol_nil ?_
 refine pq_then ?_
 refine cw_seq ?_
 refine cw_seq ?_
 refine cw_region ?_
 refine ol_pure rfl (op_assign rfl) ?_
 refine ol_nil ?_
 refine pq_then ?_
 refine cw_block ?_
 refine cw_loop (fun e w n => ∃ (k : Nat) (Gk : GH) (oO : Option Addr) (cO : Nat) (O : List Rule), e = [(0, .slice oa l.length c), (3, .slice oO O.length cO), (4, .int .i64 (k : Nat))] ∧ k ≤ l.length ∧ n = l.length - k ∧ O = rulesS (l.take k) ∧ Le G Gk ∧ RSl 3 ERule Gk (.slice oO O.length cO) O ∧ SS G w0 Gk [] w) _ _ (by exact ⟨0, G1, s7, 0, [], rfl, Nat.zero_le _, rfl, rfl, hl1, hR1, hS⟩) ((Sub.cons rfl (Sub.cons rfl (Sub.cons rfl Sub.nil)))) ?_
 clear hS
 rintro e w n ⟨k, Gk, oO, cO, O, rfl, hk, rfl, hOe, hlk, hO, hS⟩
 refine cw_seq ?_
 refine cw_seq ?_
 refine cw_region ?_
 refine ol_pure rfl (op_move rfl) ?_
 refine ol_pure rfl (op_move rfl) ?_
 refine ol_pure rfl (op_len sl_22 rfl rfl) ?_
 refine ol_pure rfl (op_lss rfl rfl) ?_
 refine ol_nil ?_
 refine pq_then ?_
 refine cw_cond rfl (fun h11 => ?_) (fun h11 => ?_)
 ·
  skip
  try simp only [decide_eq_true_eq, decide_eq_false_iff_not, Bool.not_eq_true', Bool.not_eq_false', Bool.not_eq_eq_eq_not, Bool.not_true, Bool.not_false] at h11
  have hlt : k < l.length := by omega
  obtain ⟨hoa, _, _, ⟨p, q, rfl, hp, hq, hhd⟩, hcells⟩ := h1.el hlt
  obtain ⟨op, cp, hpe, _, _⟩ := hp.elim
  obtain ⟨oq, cq, hqe, _, _⟩ := hq.elim
  subst hpe
  subst hqe
  have hol : O.length ≤ l.length := by rw [hOe]; have := rulesS_len (l.take k); simp only [List.length_take] at this; omega
  have hcO := hO.len
  have hsu := rulesS_succ hlt
  rw [← hOe] at hsu
  refine cw_skip ?_
  refine pq_then ?_
  refine cw_seq ?_
  refine cw_block ?_
  refine cw_seq ?_
  refine cw_region ?_
  refine ol_pure rfl (op_assign rfl) ?_
  refine ol_nil ?_
  refine pq_then ?_
  refine cw_seq ?_
  refine cw_block ?_
  refine cw_loop (fun e w n => ∃ j : Nat, e = [(0, .slice oa l.length c), (3, .slice oO O.length cO), (4, .int .i64 (k : Nat)), (5, .int .i64 (j : Nat))] ∧ j ≤ O.length ∧ n = O.length - j ∧ insS O l[k] = O.take j ++ insS (O.drop j) l[k] ∧ SS G w0 Gk [] w) _ _ (by exact ⟨0, rfl, Nat.zero_le _, rfl, rfl, hS⟩) ((Sub.cons rfl (Sub.cons rfl (Sub.cons rfl (Sub.cons rfl Sub.nil))))) ?_
  clear hS
  rintro e w n ⟨j, rfl, hj, rfl, hp0, hS⟩
  refine cw_seq ?_
  refine cw_seq ?_
  refine al_start' hS (hS.take 0) (by kernel_rfl) rfl (fun w hS hT => ?_)
  refine al_take (i := 0) rfl (by kernel_rfl) (by kernel_rfl) (by kernel_rfl) rfl (fun _ _ _ h => h) (op_move rfl) rfl ?_
  refine al_take (i := 1) rfl (by kernel_rfl) (by kernel_rfl) (by kernel_rfl) rfl (fun _ _ _ h => h) (op_move rfl) rfl ?_
  refine al_take (i := 2) rfl (by kernel_rfl) (by kernel_rfl) (by kernel_rfl) rfl (fun _ _ _ h => h) (op_len sl_22 rfl rfl) rfl ?_
  refine al_take (i := 3) rfl (by kernel_rfl) (by kernel_rfl) (by kernel_rfl) rfl (fun _ _ _ h => h) (op_lss rfl rfl) rfl ?_
  refine al_take (i := 4) rfl (by kernel_rfl) (by kernel_rfl) (by kernel_rfl) rfl (fun _ _ _ h => h) (op_move rfl) rfl ?_
  refine al_split (fun h18 => ?_) (fun h18 => ?_)
  ·
   skip
   try simp only [decide_eq_true_eq, decide_eq_false_iff_not, Bool.not_eq_true', Bool.not_eq_false', Bool.not_eq_eq_eq_not, Bool.not_true, Bool.not_false] at h18
   have hjl : j < O.length := by omega
   obtain ⟨hoO, _, _, ⟨p2, q2, rfl, hp2, hq2, hhd2⟩, hcells2⟩ := hO.el hjl
   obtain ⟨op2, cp2, hpe2, _, _⟩ := hp2.elim
   obtain ⟨oq2, cq2, hqe2, _, _⟩ := hq2.elim
   subst hpe2
   subst hqe2
   refine al_gtake (i := 5) rfl (by kernel_rfl) (by kernel_rfl) (by kernel_rfl) rfl rfl rfl (fun _ _ _ h => h) (op_move rfl) rfl ?_
   refine al_gtake (i := 6) rfl (by kernel_rfl) (by kernel_rfl) (by kernel_rfl) rfl rfl rfl (fun _ _ _ h => h) (op_move rfl) rfl ?_
   refine al_gtake (i := 7) rfl (by kernel_rfl) (by kernel_rfl) (by kernel_rfl) rfl rfl rfl (fun _ _ _ h => h) (op_indexN sl_22 rfl rfl (by omega) hoO) rfl ?_
   refine al_gload (i := 8) rfl (by kernel_rfl) (by kernel_rfl) (by kernel_rfl) rfl rfl rfl (fun _ _ _ h => h) (by exact op_loadN agg_30 rfl (by rfl) (fun w hw k u hk => hw.gcell (hcells2 k u hk))) rfl hT ?_
   refine al_gtake (i := 9) rfl (by kernel_rfl) (by kernel_rfl) (by kernel_rfl) rfl rfl rfl (fun _ _ _ h => h) (op_move rfl) rfl ?_
   refine al_gtake (i := 10) rfl (by kernel_rfl) (by kernel_rfl) (by kernel_rfl) rfl rfl rfl (fun _ _ _ h => h) (op_move rfl) rfl ?_
   refine al_gtake (i := 11) rfl (by kernel_rfl) (by kernel_rfl) (by kernel_rfl) rfl rfl rfl (fun _ _ _ h => h) (op_indexN sl_22 rfl rfl (by omega) hoa) rfl ?_
   refine al_gload (i := 12) rfl (by kernel_rfl) (by kernel_rfl) (by kernel_rfl) rfl rfl rfl (fun _ _ _ h => h) (by exact op_loadN agg_30 rfl (by rfl) (fun w hw k u hk => hw.gcell0 (hcells k u hk))) rfl hT ?_
   refine al_gstep (i := 13) rfl (by kernel_rfl) rfl rfl rfl (op_call_sc hS cf_31 rfl (R18_Order_c _ _ hS.hold O[j] l[k] _ _ _ _ hp2 hq2 (hp.mono EInt.mono hlk) (hq.mono EInt.mono hlk) hhd2 hhd)) ?_
   clear hS
   rintro _ w ⟨rfl, hS⟩
   refine ⟨no_need (by kernel_rfl), ?_⟩
   refine al_gtake (i := 14) rfl (by kernel_rfl) (by kernel_rfl) (by kernel_rfl) rfl rfl rfl (fun _ _ _ h => h) (op_lss rfl rfl) rfl ?_
   refine al_take (i := 15) rfl (by kernel_rfl) (by kernel_rfl) (by kernel_rfl) rfl (fun _ _ _ h => h) (op_pick_t rfl rfl) rfl ?_
   refine al_done (by kernel_rfl) ?_
   refine pq_then ?_
   refine cw_cond rfl (fun h29 => ?_) (fun h29 => ?_)
   ·
    skip
    try simp only [decide_eq_true_eq, decide_eq_false_iff_not, Bool.not_eq_true', Bool.not_eq_false', Bool.not_eq_eq_eq_not, Bool.not_true, Bool.not_false] at h29
    refine cw_skip ?_
    refine pq_then ?_
    refine cw_block ?_
    refine cw_region ?_
    refine ol_pure rfl (op_move rfl) ?_
    refine ol_pure rfl (op_add rfl rfl (by omega) (by omega)) ?_
    refine ol_pure rfl (op_assign rfl) ?_
    refine ol_nil ?_
    refine pq_in_normal ?_
    refine pq_loop _ _ (by exact ⟨j + 1, rfl, by omega, rfl, insS_step hjl hp0 h29, hS⟩) ((Sub.cons rfl (Sub.cons rfl (Sub.cons rfl (Sub.cons rfl Sub.nil))))) (by omega)
   ·
    skip
    try simp only [decide_eq_true_eq, decide_eq_false_iff_not, Bool.not_eq_true', Bool.not_eq_false', Bool.not_eq_eq_eq_not, Bool.not_true, Bool.not_false] at h29
    refine cw_exit ?_
    refine pq_exit ?_
    refine pq_exit ?_
    refine pq_in_exit ?_
    refine pq_then ?_
    refine cw_seq ?_
    refine cw_seq ?_
    refine al_start' hS (hS.take 0) (by kernel_rfl) rfl (fun w hS hT => ?_)
    refine al_take (i := 0) rfl (by kernel_rfl) (by kernel_rfl) (by kernel_rfl) rfl (fun _ _ _ h => h) (op_move rfl) rfl ?_
    refine al_take (i := 1) rfl (by kernel_rfl) (by kernel_rfl) (by kernel_rfl) rfl (fun _ _ _ h => h) (op_move rfl) rfl ?_
    refine al_take (i := 2) rfl (by kernel_rfl) (by kernel_rfl) (by kernel_rfl) rfl (fun _ _ _ h => h) (op_len sl_22 rfl rfl) rfl ?_
    refine al_take (i := 3) rfl (by kernel_rfl) (by kernel_rfl) (by kernel_rfl) rfl (fun _ _ _ h => h) (op_lss rfl rfl) rfl ?_
    refine al_take (i := 4) rfl (by kernel_rfl) (by kernel_rfl) (by kernel_rfl) rfl (fun _ _ _ h => h) (op_move rfl) rfl ?_
    refine al_split (fun h36 => ?_) (fun h36 => ?_)
    ·
     skip
     try simp only [decide_eq_true_eq, decide_eq_false_iff_not, Bool.not_eq_true', Bool.not_eq_false', Bool.not_eq_eq_eq_not, Bool.not_true, Bool.not_false] at h36
     have hjl : j < O.length := by omega
     obtain ⟨hoO, _, _, ⟨p2, q2, rfl, hp2, hq2, hhd2⟩, hcells2⟩ := hO.el hjl
     obtain ⟨op2, cp2, hpe2, _, _⟩ := hp2.elim
     obtain ⟨oq2, cq2, hqe2, _, _⟩ := hq2.elim
     subst hpe2
     subst hqe2
     refine al_gtake (i := 5) rfl (by kernel_rfl) (by kernel_rfl) (by kernel_rfl) rfl rfl rfl (fun _ _ _ h => h) (op_move rfl) rfl ?_
     refine al_gtake (i := 6) rfl (by kernel_rfl) (by kernel_rfl) (by kernel_rfl) rfl rfl rfl (fun _ _ _ h => h) (op_move rfl) rfl ?_
     refine al_gtake (i := 7) rfl (by kernel_rfl) (by kernel_rfl) (by kernel_rfl) rfl rfl rfl (fun _ _ _ h => h) (op_indexN sl_22 rfl rfl (by omega) hoO) rfl ?_
     refine al_gload (i := 8) rfl (by kernel_rfl) (by kernel_rfl) (by kernel_rfl) rfl rfl rfl (fun _ _ _ h => h) (by exact op_loadN agg_30 rfl (by rfl) (fun w hw k u hk => hw.gcell (hcells2 k u hk))) rfl hT ?_
     refine al_gtake (i := 9) rfl (by kernel_rfl) (by kernel_rfl) (by kernel_rfl) rfl rfl rfl (fun _ _ _ h => h) (op_move rfl) rfl ?_
     refine al_gtake (i := 10) rfl (by kernel_rfl) (by kernel_rfl) (by kernel_rfl) rfl rfl rfl (fun _ _ _ h => h) (op_move rfl) rfl ?_
     refine al_gtake (i := 11) rfl (by kernel_rfl) (by kernel_rfl) (by kernel_rfl) rfl rfl rfl (fun _ _ _ h => h) (op_indexN sl_22 rfl rfl (by omega) hoa) rfl ?_
     refine al_gload (i := 12) rfl (by kernel_rfl) (by kernel_rfl) (by kernel_rfl) rfl rfl rfl (fun _ _ _ h => h) (by exact op_loadN agg_30 rfl (by rfl) (fun w hw k u hk => hw.gcell0 (hcells k u hk))) rfl hT ?_
     refine al_gstep (i := 13) rfl (by kernel_rfl) rfl rfl rfl (op_call_sc hS cf_31 rfl (R18_Order_c _ _ hS.hold O[j] l[k] _ _ _ _ hp2 hq2 (hp.mono EInt.mono hlk) (hq.mono EInt.mono hlk) hhd2 hhd)) ?_
     clear hS
     rintro _ w ⟨rfl, hS⟩
     refine ⟨no_need (by kernel_rfl), ?_⟩
     refine al_gtake (i := 14) rfl (by kernel_rfl) (by kernel_rfl) (by kernel_rfl) rfl rfl rfl (fun _ _ _ h => h) (op_eql rfl rfl) rfl ?_
     refine al_take (i := 15) rfl (by kernel_rfl) (by kernel_rfl) (by kernel_rfl) rfl (fun _ _ _ h => h) (op_pick_t rfl rfl) rfl ?_
     refine al_done (by kernel_rfl) ?_
     refine pq_then ?_
     refine cw_cond rfl (fun h47 => ?_) (fun h47 => ?_)
     ·
      skip
      try simp only [decide_eq_true_eq, decide_eq_false_iff_not, Bool.not_eq_true', Bool.not_eq_false', Bool.not_eq_eq_eq_not, Bool.not_true, Bool.not_false] at h47
      refine cw_exit ?_
      refine pq_exit ?_
      refine pq_in_exit ?_
      refine pq_then ?_
      refine cw_region ?_
      refine ol_pure rfl (op_move rfl) ?_
      refine ol_pure rfl (op_add rfl rfl (by omega) (by omega)) ?_
      refine ol_pure rfl (op_assign rfl) ?_
      refine ol_nil ?_
      refine pq_loop _ _ (by exact ⟨k + 1, Gk, oO, cO, O, rfl, by omega, rfl, by rw [hsu, insS_here hjl hp0 h47], hlk, hO, hS⟩) ((Sub.cons rfl (Sub.cons rfl (Sub.cons rfl Sub.nil)))) (by omega)
     ·
      skip
      try simp only [decide_eq_true_eq, decide_eq_false_iff_not, Bool.not_eq_true', Bool.not_eq_false', Bool.not_eq_eq_eq_not, Bool.not_true, Bool.not_false] at h47
      have hin : insS O l[k] = O.take j ++ [l[k]] ++ O.drop j := insS_new hjl hp0 (by omega) h47
      refine cw_skip ?_
      refine pq_then ?_
      refine cw_seq ?_
      refine cw_region ?_
      refine ol_step rfl (op_buildSlice (el := 30) (is := []) (xs := []) (sz := 3) (cs := []) hS rfl rfl (fun w => by kernel_rfl) rfl (by decide)) ?_
      clear hS
      rintro _ w ⟨o6, rfl, hS⟩
      refine ol_pure rfl (op_move rfl) ?_
      refine ol_pure rfl (op_move rfl) ?_
      have hcut := hO.cut (lo := 0) (hi := j) (Nat.zero_le _) (by omega)
      obtain ⟨oY, cY, hY, _, _⟩ := hcut.elimN (n := j) (by simp; omega)
      rw [hY, List.drop_zero] at hcut
      obtain ⟨us1, hus1, hone1, hcs1⟩ := hcut.cells ERule.one
      have hcut2 := hO.cut (lo := j) (hi := O.length) (by omega) (by omega)
      obtain ⟨oZ, cZ, hZ, _, _⟩ := hcut2.elimN (n := O.length - j) (by simp)
      rw [hZ, List.take_length] at hcut2
      obtain ⟨us2, hus2, hone2, hcs2⟩ := hcut2.cells ERule.one
      refine ol_pure rfl (op_val (op_slice_h sl_22 rfl rfl (by omega)) hY) ?_
      refine ol_step rfl (op_append (j := 0) (m := j) (news := us1) hS sl_22 el_30 rfl rfl rfl rfl rfl (by rw [hus1.1]; simp; omega) (by decide) (fun k u hu => ⟨(hcs1 k u hu).1, hS.hold.cell (hcs1 k u hu).2⟩) hone1 (by omega) (by unfold maxLen; omega)) ?_
      clear hS
      rintro _ w ⟨o6n, c_o6n, rfl, hS⟩; (try simp only [List.nil_append, List.cons_append, List.set] at hS)
      refine ol_pure rfl (op_assign rfl) ?_
      refine ol_nil ?_
      refine pq_then ?_
      refine cw_seq ?_
      refine cw_region ?_
      refine ol_pure rfl (op_move rfl) ?_
      refine ol_pure rfl (op_move rfl) ?_
      refine ol_pure rfl (op_move rfl) ?_
      refine ol_pure rfl (op_indexN sl_22 rfl rfl (by omega) hoa) ?_
      refine ol_load rfl (op_loadN agg_30 rfl (by rfl) (fun w hw k u hk => hw.gcell0 (hcells k u hk))) hS ?_
      refine ol_step rfl (op_buildSlice (el := 30) (is := [0]) (xs := [.tmp 57]) (sz := 3) (cs := [.int .i64 l[k].head, .slice op l[k].pos.length cp, .slice oq l[k].neg.length cq]) hS rfl rfl (fun w => by kernel_rfl) rfl (by decide)) ?_
      clear hS
      rintro _ w ⟨s58, rfl, hS⟩
      refine ol_step rfl (op_append (j := 1) hS sl_22 el_30 rfl rfl rfl rfl rfl rfl (by decide) (hS.news (j := 0) rfl) (by simp [Value.oneCell']) (by omega) (by unfold maxLen; omega)) ?_
      clear hS
      rintro _ w ⟨o6nn, c_o6nn, rfl, hS⟩; (try simp only [List.nil_append, List.cons_append, List.set] at hS); replace hS := SS.drop [] hS; (try simp only [List.nil_append, List.cons_append] at hS)
      refine ol_pure rfl (op_assign rfl) ?_
      refine ol_nil ?_
      refine pq_then ?_
      refine cw_seq ?_
      refine cw_region ?_
      refine ol_pure rfl (op_move rfl) ?_
      refine ol_pure rfl (op_move rfl) ?_
      refine ol_pure rfl (op_move rfl) ?_
      refine ol_pure rfl (op_val (op_slice_l sl_22 rfl rfl (by omega)) hZ) ?_
      refine ol_step rfl (op_append (j := 0) (m := O.length - j) (news := us2) hS sl_22 el_30 rfl rfl rfl rfl rfl (by rw [hus2.1]; simp) (by decide) (fun k u hu => ⟨(hcs2 k u hu).1, hS.hold.cell (hcs2 k u hu).2⟩) hone2 (by omega) (by unfold maxLen; omega)) ?_
      clear hS
      rintro _ w ⟨o6nnn, c_o6nnn, rfl, hS⟩; (try simp only [List.nil_append, List.cons_append, List.set] at hS)
      refine ol_pure rfl (op_assign rfl) ?_
      refine ol_nil ?_
      refine pq_then ?_
      refine cw_region ?_
      refine ol_pure rfl (op_move rfl) ?_
      refine ol_pure rfl (op_assign rfl) ?_
      refine ol_nil ?_
      refine pq_in_normal ?_
      refine pq_then ?_
      refine cw_region ?_
      refine ol_pure rfl (op_move rfl) ?_
      refine ol_pure rfl (op_add rfl rfl (by omega) (by omega)) ?_
      refine ol_pure rfl (op_assign rfl) ?_
      refine ol_nil ?_
      refine pq_loop _ _ (by exact (by
          obtain ⟨G9, hl9, hS9, hR9⟩ := SS.give' (O.take j ++ [l[k]] ++ O.drop j) [] ERule.mono hS (by decide) ((hus1.snoc (x := l[k]) (cs := [.int .i64 l[k].head, .slice op l[k].pos.length cp, .slice oq l[k].neg.length cq]) rfl ⟨_, _, rfl, hp.mono EInt.mono hlk, hq.mono EInt.mono hlk, hhd⟩).app hus2) (by simp; omega)
          exact ⟨k + 1, G9, o6nnn, c_o6nnn, _, by rw [show (O.take j ++ [l[k]] ++ O.drop j).length = 0 + j + 1 + (O.length - j) from by simp; omega], by omega, rfl, by rw [hsu, hin], hlk.trans hl9, by rw [show (O.take j ++ [l[k]] ++ O.drop j).length = 0 + j + 1 + (O.length - j) from by simp; omega]; exact hR9, hS9⟩)) ((Sub.cons rfl (Sub.cons rfl (Sub.cons rfl Sub.nil)))) (by omega)
    ·
     skip
     try simp only [decide_eq_true_eq, decide_eq_false_iff_not, Bool.not_eq_true', Bool.not_eq_false', Bool.not_eq_eq_eq_not, Bool.not_true, Bool.not_false] at h36
     have hin : insS O l[k] = O.take j ++ [l[k]] ++ O.drop j := insS_end (by omega) hp0
     refine al_gskip (i := 5) rfl (by kernel_rfl) (by kernel_rfl) (by kernel_rfl) rfl rfl rfl rfl (fun _ _ _ h => h) (fun _ => hT) ?_
     refine al_gskip (i := 6) rfl (by kernel_rfl) (by kernel_rfl) (by kernel_rfl) rfl rfl rfl rfl (fun _ _ _ h => h) (fun _ => hT) ?_
     refine al_gskip (i := 7) rfl (by kernel_rfl) (by kernel_rfl) (by kernel_rfl) rfl rfl rfl rfl (fun _ _ _ h => h) (fun _ => hT) ?_
     refine al_gskip (i := 8) rfl (by kernel_rfl) (by kernel_rfl) (by kernel_rfl) rfl rfl rfl rfl (fun _ _ _ h => h) (fun _ => hT) ?_
     refine al_gskip (i := 9) rfl (by kernel_rfl) (by kernel_rfl) (by kernel_rfl) rfl rfl rfl rfl (fun _ _ _ h => h) (fun _ => hT) ?_
     refine al_gskip (i := 10) rfl (by kernel_rfl) (by kernel_rfl) (by kernel_rfl) rfl rfl rfl rfl (fun _ _ _ h => h) (fun _ => hT) ?_
     refine al_gskip (i := 11) rfl (by kernel_rfl) (by kernel_rfl) (by kernel_rfl) rfl rfl rfl rfl (fun _ _ _ h => h) (fun _ => hT) ?_
     refine al_gskip (i := 12) rfl (by kernel_rfl) (by kernel_rfl) (by kernel_rfl) rfl rfl rfl rfl (fun _ _ _ h => h) (fun _ => hT) ?_
     refine al_gskip (i := 13) rfl (by kernel_rfl) (by kernel_rfl) (by kernel_rfl) rfl rfl rfl rfl (fun _ _ _ h => h) (fun _ => hT) ?_
     refine al_gskip (i := 14) rfl (by kernel_rfl) (by kernel_rfl) (by kernel_rfl) rfl rfl rfl rfl (fun _ _ _ h => h) (fun _ => hT) ?_
     refine al_take (i := 15) rfl (by kernel_rfl) (by kernel_rfl) (by kernel_rfl) rfl (fun _ _ _ h => h) (op_pick_f rfl rfl) rfl ?_
     refine al_done (by kernel_rfl) ?_
     refine pq_then ?_
     refine cw_cond_f rfl ?_
     refine cw_skip ?_
     refine pq_then ?_
     refine cw_seq ?_
     refine cw_region ?_
     refine ol_step rfl (op_buildSlice (el := 30) (is := []) (xs := []) (sz := 3) (cs := []) hS rfl rfl (fun w => by kernel_rfl) rfl (by decide)) ?_
     clear hS
     rintro _ w ⟨o6, rfl, hS⟩
     refine ol_pure rfl (op_move rfl) ?_
     refine ol_pure rfl (op_move rfl) ?_
     have hcut := hO.cut (lo := 0) (hi := j) (Nat.zero_le _) (by omega)
     obtain ⟨oY, cY, hY, _, _⟩ := hcut.elimN (n := j) (by simp; omega)
     rw [hY, List.drop_zero] at hcut
     obtain ⟨us1, hus1, hone1, hcs1⟩ := hcut.cells ERule.one
     have hcut2 := hO.cut (lo := j) (hi := O.length) (by omega) (by omega)
     obtain ⟨oZ, cZ, hZ, _, _⟩ := hcut2.elimN (n := O.length - j) (by simp)
     rw [hZ, List.take_length] at hcut2
     obtain ⟨us2, hus2, hone2, hcs2⟩ := hcut2.cells ERule.one
     refine ol_pure rfl (op_val (op_slice_h sl_22 rfl rfl (by omega)) hY) ?_
     refine ol_step rfl (op_append (j := 0) (m := j) (news := us1) hS sl_22 el_30 rfl rfl rfl rfl rfl (by rw [hus1.1]; simp; omega) (by decide) (fun k u hu => ⟨(hcs1 k u hu).1, hS.hold.cell (hcs1 k u hu).2⟩) hone1 (by omega) (by unfold maxLen; omega)) ?_
     clear hS
     rintro _ w ⟨o6n, c_o6n, rfl, hS⟩; (try simp only [List.nil_append, List.cons_append, List.set] at hS)
     refine ol_pure rfl (op_assign rfl) ?_
     refine ol_nil ?_
     refine pq_then ?_
     refine cw_seq ?_
     refine cw_region ?_
     refine ol_pure rfl (op_move rfl) ?_
     refine ol_pure rfl (op_move rfl) ?_
     refine ol_pure rfl (op_move rfl) ?_
     refine ol_pure rfl (op_indexN sl_22 rfl rfl (by omega) hoa) ?_
     refine ol_load rfl (op_loadN agg_30 rfl (by rfl) (fun w hw k u hk => hw.gcell0 (hcells k u hk))) hS ?_
     refine ol_step rfl (op_buildSlice (el := 30) (is := [0]) (xs := [.tmp 57]) (sz := 3) (cs := [.int .i64 l[k].head, .slice op l[k].pos.length cp, .slice oq l[k].neg.length cq]) hS rfl rfl (fun w => by kernel_rfl) rfl (by decide)) ?_
     clear hS
     rintro _ w ⟨s58, rfl, hS⟩
     refine ol_step rfl (op_append (j := 1) hS sl_22 el_30 rfl rfl rfl rfl rfl rfl (by decide) (hS.news (j := 0) rfl) (by simp [Value.oneCell']) (by omega) (by unfold maxLen; omega)) ?_
     clear hS
     rintro _ w ⟨o6nn, c_o6nn, rfl, hS⟩; (try simp only [List.nil_append, List.cons_append, List.set] at hS); replace hS := SS.drop [] hS; (try simp only [List.nil_append, List.cons_append] at hS)
     refine ol_pure rfl (op_assign rfl) ?_
     refine ol_nil ?_
     refine pq_then ?_
     refine cw_seq ?_
     refine cw_region ?_
     refine ol_pure rfl (op_move rfl) ?_
     refine ol_pure rfl (op_move rfl) ?_
     refine ol_pure rfl (op_move rfl) ?_
     refine ol_pure rfl (op_val (op_slice_l sl_22 rfl rfl (by omega)) hZ) ?_
     refine ol_step rfl (op_append (j := 0) (m := O.length - j) (news := us2) hS sl_22 el_30 rfl rfl rfl rfl rfl (by rw [hus2.1]; simp) (by decide) (fun k u hu => ⟨(hcs2 k u hu).1, hS.hold.cell (hcs2 k u hu).2⟩) hone2 (by omega) (by unfold maxLen; omega)) ?_
     clear hS
     rintro _ w ⟨o6nnn, c_o6nnn, rfl, hS⟩; (try simp only [List.nil_append, List.cons_append, List.set] at hS)
     refine ol_pure rfl (op_assign rfl) ?_
     refine ol_nil ?_
     refine pq_then ?_
     refine cw_region ?_
     refine ol_pure rfl (op_move rfl) ?_
     refine ol_pure rfl (op_assign rfl) ?_
     refine ol_nil ?_
     refine pq_in_normal ?_
     refine pq_then ?_
     refine cw_region ?_
     refine ol_pure rfl (op_move rfl) ?_
     refine ol_pure rfl (op_add rfl rfl (by omega) (by omega)) ?_
     refine ol_pure rfl (op_assign rfl) ?_
     refine ol_nil ?_
     refine pq_loop _ _ (by exact (by
         obtain ⟨G9, hl9, hS9, hR9⟩ := SS.give' (O.take j ++ [l[k]] ++ O.drop j) [] ERule.mono hS (by decide) ((hus1.snoc (x := l[k]) (cs := [.int .i64 l[k].head, .slice op l[k].pos.length cp, .slice oq l[k].neg.length cq]) rfl ⟨_, _, rfl, hp.mono EInt.mono hlk, hq.mono EInt.mono hlk, hhd⟩).app hus2) (by simp; omega)
         exact ⟨k + 1, G9, o6nnn, c_o6nnn, _, by rw [show (O.take j ++ [l[k]] ++ O.drop j).length = 0 + j + 1 + (O.length - j) from by simp; omega], by omega, rfl, by rw [hsu, hin], hlk.trans hl9, by rw [show (O.take j ++ [l[k]] ++ O.drop j).length = 0 + j + 1 + (O.length - j) from by simp; omega]; exact hR9, hS9⟩)) ((Sub.cons rfl (Sub.cons rfl (Sub.cons rfl Sub.nil)))) (by omega)
  ·
   skip
   try simp only [decide_eq_true_eq, decide_eq_false_iff_not, Bool.not_eq_true', Bool.not_eq_false', Bool.not_eq_eq_eq_not, Bool.not_true, Bool.not_false] at h18
   refine al_gskip (i := 5) rfl (by kernel_rfl) (by kernel_rfl) (by kernel_rfl) rfl rfl rfl rfl (fun _ _ _ h => h) (fun _ => hT) ?_
   refine al_gskip (i := 6) rfl (by kernel_rfl) (by kernel_rfl) (by kernel_rfl) rfl rfl rfl rfl (fun _ _ _ h => h) (fun _ => hT) ?_
   refine al_gskip (i := 7) rfl (by kernel_rfl) (by kernel_rfl) (by kernel_rfl) rfl rfl rfl rfl (fun _ _ _ h => h) (fun _ => hT) ?_
   refine al_gskip (i := 8) rfl (by kernel_rfl) (by kernel_rfl) (by kernel_rfl) rfl rfl rfl rfl (fun _ _ _ h => h) (fun _ => hT) ?_
   refine al_gskip (i := 9) rfl (by kernel_rfl) (by kernel_rfl) (by kernel_rfl) rfl rfl rfl rfl (fun _ _ _ h => h) (fun _ => hT) ?_
   refine al_gskip (i := 10) rfl (by kernel_rfl) (by kernel_rfl) (by kernel_rfl) rfl rfl rfl rfl (fun _ _ _ h => h) (fun _ => hT) ?_
   refine al_gskip (i := 11) rfl (by kernel_rfl) (by kernel_rfl) (by kernel_rfl) rfl rfl rfl rfl (fun _ _ _ h => h) (fun _ => hT) ?_
   refine al_gskip (i := 12) rfl (by kernel_rfl) (by kernel_rfl) (by kernel_rfl) rfl rfl rfl rfl (fun _ _ _ h => h) (fun _ => hT) ?_
   refine al_gskip (i := 13) rfl (by kernel_rfl) (by kernel_rfl) (by kernel_rfl) rfl rfl rfl rfl (fun _ _ _ h => h) (fun _ => hT) ?_
   refine al_gskip (i := 14) rfl (by kernel_rfl) (by kernel_rfl) (by kernel_rfl) rfl rfl rfl rfl (fun _ _ _ h => h) (fun _ => hT) ?_
   refine al_take (i := 15) rfl (by kernel_rfl) (by kernel_rfl) (by kernel_rfl) rfl (fun _ _ _ h => h) (op_pick_f rfl rfl) rfl ?_
   refine al_done (by kernel_rfl) ?_
   refine pq_then ?_
   refine cw_cond_f rfl ?_
   refine cw_exit ?_
   refine pq_exit ?_
   refine pq_exit ?_
   refine pq_in_exit ?_
   refine pq_then ?_
   refine cw_seq ?_
   refine cw_seq ?_
   refine al_start' hS (hS.take 0) (by kernel_rfl) rfl (fun w hS hT => ?_)
   refine al_take (i := 0) rfl (by kernel_rfl) (by kernel_rfl) (by kernel_rfl) rfl (fun _ _ _ h => h) (op_move rfl) rfl ?_
   refine al_take (i := 1) rfl (by kernel_rfl) (by kernel_rfl) (by kernel_rfl) rfl (fun _ _ _ h => h) (op_move rfl) rfl ?_
   refine al_take (i := 2) rfl (by kernel_rfl) (by kernel_rfl) (by kernel_rfl) rfl (fun _ _ _ h => h) (op_len sl_22 rfl rfl) rfl ?_
   refine al_take (i := 3) rfl (by kernel_rfl) (by kernel_rfl) (by kernel_rfl) rfl (fun _ _ _ h => h) (op_lss rfl rfl) rfl ?_
   refine al_take (i := 4) rfl (by kernel_rfl) (by kernel_rfl) (by kernel_rfl) rfl (fun _ _ _ h => h) (op_move rfl) rfl ?_
   refine al_split (fun h36 => ?_) (fun h36 => ?_)
   ·
    skip
    try simp only [decide_eq_true_eq, decide_eq_false_iff_not, Bool.not_eq_true', Bool.not_eq_false', Bool.not_eq_eq_eq_not, Bool.not_true, Bool.not_false] at h36
    have hjl : j < O.length := by omega
    obtain ⟨hoO, _, _, ⟨p2, q2, rfl, hp2, hq2, hhd2⟩, hcells2⟩ := hO.el hjl
    obtain ⟨op2, cp2, hpe2, _, _⟩ := hp2.elim
    obtain ⟨oq2, cq2, hqe2, _, _⟩ := hq2.elim
    subst hpe2
    subst hqe2
    refine al_gtake (i := 5) rfl (by kernel_rfl) (by kernel_rfl) (by kernel_rfl) rfl rfl rfl (fun _ _ _ h => h) (op_move rfl) rfl ?_
    refine al_gtake (i := 6) rfl (by kernel_rfl) (by kernel_rfl) (by kernel_rfl) rfl rfl rfl (fun _ _ _ h => h) (op_move rfl) rfl ?_
    refine al_gtake (i := 7) rfl (by kernel_rfl) (by kernel_rfl) (by kernel_rfl) rfl rfl rfl (fun _ _ _ h => h) (op_indexN sl_22 rfl rfl (by omega) hoO) rfl ?_
    refine al_gload (i := 8) rfl (by kernel_rfl) (by kernel_rfl) (by kernel_rfl) rfl rfl rfl (fun _ _ _ h => h) (by exact op_loadN agg_30 rfl (by rfl) (fun w hw k u hk => hw.gcell (hcells2 k u hk))) rfl hT ?_
    refine al_gtake (i := 9) rfl (by kernel_rfl) (by kernel_rfl) (by kernel_rfl) rfl rfl rfl (fun _ _ _ h => h) (op_move rfl) rfl ?_
    refine al_gtake (i := 10) rfl (by kernel_rfl) (by kernel_rfl) (by kernel_rfl) rfl rfl rfl (fun _ _ _ h => h) (op_move rfl) rfl ?_
    refine al_gtake (i := 11) rfl (by kernel_rfl) (by kernel_rfl) (by kernel_rfl) rfl rfl rfl (fun _ _ _ h => h) (op_indexN sl_22 rfl rfl (by omega) hoa) rfl ?_
    refine al_gload (i := 12) rfl (by kernel_rfl) (by kernel_rfl) (by kernel_rfl) rfl rfl rfl (fun _ _ _ h => h) (by exact op_loadN agg_30 rfl (by rfl) (fun w hw k u hk => hw.gcell0 (hcells k u hk))) rfl hT ?_
    refine al_gstep (i := 13) rfl (by kernel_rfl) rfl rfl rfl (op_call_sc hS cf_31 rfl (R18_Order_c _ _ hS.hold O[j] l[k] _ _ _ _ hp2 hq2 (hp.mono EInt.mono hlk) (hq.mono EInt.mono hlk) hhd2 hhd)) ?_
    clear hS
    rintro _ w ⟨rfl, hS⟩
    refine ⟨no_need (by kernel_rfl), ?_⟩
    refine al_gtake (i := 14) rfl (by kernel_rfl) (by kernel_rfl) (by kernel_rfl) rfl rfl rfl (fun _ _ _ h => h) (op_eql rfl rfl) rfl ?_
    refine al_take (i := 15) rfl (by kernel_rfl) (by kernel_rfl) (by kernel_rfl) rfl (fun _ _ _ h => h) (op_pick_t rfl rfl) rfl ?_
    refine al_done (by kernel_rfl) ?_
    refine pq_then ?_
    refine cw_cond rfl (fun h47 => ?_) (fun h47 => ?_)
    ·
     skip
     try simp only [decide_eq_true_eq, decide_eq_false_iff_not, Bool.not_eq_true', Bool.not_eq_false', Bool.not_eq_eq_eq_not, Bool.not_true, Bool.not_false] at h47
     refine cw_exit ?_
     refine pq_exit ?_
     refine pq_in_exit ?_
     refine pq_then ?_
     refine cw_region ?_
     refine ol_pure rfl (op_move rfl) ?_
     refine ol_pure rfl (op_add rfl rfl (by omega) (by omega)) ?_
     refine ol_pure rfl (op_assign rfl) ?_
     refine ol_nil ?_
     refine pq_loop _ _ (by exact ⟨k + 1, Gk, oO, cO, O, rfl, by omega, rfl, by rw [hsu, insS_here hjl hp0 h47], hlk, hO, hS⟩) ((Sub.cons rfl (Sub.cons rfl (Sub.cons rfl Sub.nil)))) (by omega)
    ·
     skip
     try simp only [decide_eq_true_eq, decide_eq_false_iff_not, Bool.not_eq_true', Bool.not_eq_false', Bool.not_eq_eq_eq_not, Bool.not_true, Bool.not_false] at h47
     have hin : insS O l[k] = O.take j ++ [l[k]] ++ O.drop j := insS_new hjl hp0 (by omega) h47
     refine cw_skip ?_
     refine pq_then ?_
     refine cw_seq ?_
     refine cw_region ?_
     refine ol_step rfl (op_buildSlice (el := 30) (is := []) (xs := []) (sz := 3) (cs := []) hS rfl rfl (fun w => by kernel_rfl) rfl (by decide)) ?_
     clear hS
     rintro _ w ⟨o6, rfl, hS⟩
     refine ol_pure rfl (op_move rfl) ?_
     refine ol_pure rfl (op_move rfl) ?_
     have hcut := hO.cut (lo := 0) (hi := j) (Nat.zero_le _) (by omega)
     obtain ⟨oY, cY, hY, _, _⟩ := hcut.elimN (n := j) (by simp; omega)
     rw [hY, List.drop_zero] at hcut
     obtain ⟨us1, hus1, hone1, hcs1⟩ := hcut.cells ERule.one
     have hcut2 := hO.cut (lo := j) (hi := O.length) (by omega) (by omega)
     obtain ⟨oZ, cZ, hZ, _, _⟩ := hcut2.elimN (n := O.length - j) (by simp)
     rw [hZ, List.take_length] at hcut2
     obtain ⟨us2, hus2, hone2, hcs2⟩ := hcut2.cells ERule.one
     refine ol_pure rfl (op_val (op_slice_h sl_22 rfl rfl (by omega)) hY) ?_
     refine ol_step rfl (op_append (j := 0) (m := j) (news := us1) hS sl_22 el_30 rfl rfl rfl rfl rfl (by rw [hus1.1]; simp; omega) (by decide) (fun k u hu => ⟨(hcs1 k u hu).1, hS.hold.cell (hcs1 k u hu).2⟩) hone1 (by omega) (by unfold maxLen; omega)) ?_
     clear hS
     rintro _ w ⟨o6n, c_o6n, rfl, hS⟩; (try simp only [List.nil_append, List.cons_append, List.set] at hS)
     refine ol_pure rfl (op_assign rfl) ?_
     refine ol_nil ?_
     refine pq_then ?_
     refine cw_seq ?_
     refine cw_region ?_
     refine ol_pure rfl (op_move rfl) ?_
     refine ol_pure rfl (op_move rfl) ?_
     refine ol_pure rfl (op_move rfl) ?_
     refine ol_pure rfl (op_indexN sl_22 rfl rfl (by omega) hoa) ?_
     refine ol_load rfl (op_loadN agg_30 rfl (by rfl) (fun w hw k u hk => hw.gcell0 (hcells k u hk))) hS ?_
     refine ol_step rfl (op_buildSlice (el := 30) (is := [0]) (xs := [.tmp 57]) (sz := 3) (cs := [.int .i64 l[k].head, .slice op l[k].pos.length cp, .slice oq l[k].neg.length cq]) hS rfl rfl (fun w => by kernel_rfl) rfl (by decide)) ?_
     clear hS
     rintro _ w ⟨s58, rfl, hS⟩
     refine ol_step rfl (op_append (j := 1) hS sl_22 el_30 rfl rfl rfl rfl rfl rfl (by decide) (hS.news (j := 0) rfl) (by simp [Value.oneCell']) (by omega) (by unfold maxLen; omega)) ?_
     clear hS
     rintro _ w ⟨o6nn, c_o6nn, rfl, hS⟩; (try simp only [List.nil_append, List.cons_append, List.set] at hS); replace hS := SS.drop [] hS; (try simp only [List.nil_append, List.cons_append] at hS)
     refine ol_pure rfl (op_assign rfl) ?_
     refine ol_nil ?_
     refine pq_then ?_
     refine cw_seq ?_
     refine cw_region ?_
     refine ol_pure rfl (op_move rfl) ?_
     refine ol_pure rfl (op_move rfl) ?_
     refine ol_pure rfl (op_move rfl) ?_
     refine ol_pure rfl (op_val (op_slice_l sl_22 rfl rfl (by omega)) hZ) ?_
     refine ol_step rfl (op_append (j := 0) (m := O.length - j) (news := us2) hS sl_22 el_30 rfl rfl rfl rfl rfl (by rw [hus2.1]; simp) (by decide) (fun k u hu => ⟨(hcs2 k u hu).1, hS.hold.cell (hcs2 k u hu).2⟩) hone2 (by omega) (by unfold maxLen; omega)) ?_
     clear hS
     rintro _ w ⟨o6nnn, c_o6nnn, rfl, hS⟩; (try simp only [List.nil_append, List.cons_append, List.set] at hS)
     refine ol_pure rfl (op_assign rfl) ?_
     refine ol_nil ?_
     refine pq_then ?_
     refine cw_region ?_
     refine ol_pure rfl (op_move rfl) ?_
     refine ol_pure rfl (op_assign rfl) ?_
     refine ol_nil ?_
     refine pq_in_normal ?_
     refine pq_then ?_
     refine cw_region ?_
     refine ol_pure rfl (op_move rfl) ?_
     refine ol_pure rfl (op_add rfl rfl (by omega) (by omega)) ?_
     refine ol_pure rfl (op_assign rfl) ?_
     refine ol_nil ?_
     refine pq_loop _ _ (by exact (by
         obtain ⟨G9, hl9, hS9, hR9⟩ := SS.give' (O.take j ++ [l[k]] ++ O.drop j) [] ERule.mono hS (by decide) ((hus1.snoc (x := l[k]) (cs := [.int .i64 l[k].head, .slice op l[k].pos.length cp, .slice oq l[k].neg.length cq]) rfl ⟨_, _, rfl, hp.mono EInt.mono hlk, hq.mono EInt.mono hlk, hhd⟩).app hus2) (by simp; omega)
         exact ⟨k + 1, G9, o6nnn, c_o6nnn, _, by rw [show (O.take j ++ [l[k]] ++ O.drop j).length = 0 + j + 1 + (O.length - j) from by simp; omega], by omega, rfl, by rw [hsu, hin], hlk.trans hl9, by rw [show (O.take j ++ [l[k]] ++ O.drop j).length = 0 + j + 1 + (O.length - j) from by simp; omega]; exact hR9, hS9⟩)) ((Sub.cons rfl (Sub.cons rfl (Sub.cons rfl Sub.nil)))) (by omega)
   ·
    skip
    try simp only [decide_eq_true_eq, decide_eq_false_iff_not, Bool.not_eq_true', Bool.not_eq_false', Bool.not_eq_eq_eq_not, Bool.not_true, Bool.not_false] at h36
    have hin : insS O l[k] = O.take j ++ [l[k]] ++ O.drop j := insS_end (by omega) hp0
    refine al_gskip (i := 5) rfl (by kernel_rfl) (by kernel_rfl) (by kernel_rfl) rfl rfl rfl rfl (fun _ _ _ h => h) (fun _ => hT) ?_
    refine al_gskip (i := 6) rfl (by kernel_rfl) (by kernel_rfl) (by kernel_rfl) rfl rfl rfl rfl (fun _ _ _ h => h) (fun _ => hT) ?_
    refine al_gskip (i := 7) rfl (by kernel_rfl) (by kernel_rfl) (by kernel_rfl) rfl rfl rfl rfl (fun _ _ _ h => h) (fun _ => hT) ?_
    refine al_gskip (i := 8) rfl (by kernel_rfl) (by kernel_rfl) (by kernel_rfl) rfl rfl rfl rfl (fun _ _ _ h => h) (fun _ => hT) ?_
    refine al_gskip (i := 9) rfl (by kernel_rfl) (by kernel_rfl) (by kernel_rfl) rfl rfl rfl rfl (fun _ _ _ h => h) (fun _ => hT) ?_
    refine al_gskip (i := 10) rfl (by kernel_rfl) (by kernel_rfl) (by kernel_rfl) rfl rfl rfl rfl (fun _ _ _ h => h) (fun _ => hT) ?_
    refine al_gskip (i := 11) rfl (by kernel_rfl) (by kernel_rfl) (by kernel_rfl) rfl rfl rfl rfl (fun _ _ _ h => h) (fun _ => hT) ?_
    refine al_gskip (i := 12) rfl (by kernel_rfl) (by kernel_rfl) (by kernel_rfl) rfl rfl rfl rfl (fun _ _ _ h => h) (fun _ => hT) ?_
    refine al_gskip (i := 13) rfl (by kernel_rfl) (by kernel_rfl) (by kernel_rfl) rfl rfl rfl rfl (fun _ _ _ h => h) (fun _ => hT) ?_
    refine al_gskip (i := 14) rfl (by kernel_rfl) (by kernel_rfl) (by kernel_rfl) rfl rfl rfl rfl (fun _ _ _ h => h) (fun _ => hT) ?_
    refine al_take (i := 15) rfl (by kernel_rfl) (by kernel_rfl) (by kernel_rfl) rfl (fun _ _ _ h => h) (op_pick_f rfl rfl) rfl ?_
    refine al_done (by kernel_rfl) ?_
    refine pq_then ?_
    refine cw_cond_f rfl ?_
    refine cw_skip ?_
    refine pq_then ?_
    refine cw_seq ?_
    refine cw_region ?_
    refine ol_step rfl (op_buildSlice (el := 30) (is := []) (xs := []) (sz := 3) (cs := []) hS rfl rfl (fun w => by kernel_rfl) rfl (by decide)) ?_
    clear hS
    rintro _ w ⟨o6, rfl, hS⟩
    refine ol_pure rfl (op_move rfl) ?_
    refine ol_pure rfl (op_move rfl) ?_
    have hcut := hO.cut (lo := 0) (hi := j) (Nat.zero_le _) (by omega)
    obtain ⟨oY, cY, hY, _, _⟩ := hcut.elimN (n := j) (by simp; omega)
    rw [hY, List.drop_zero] at hcut
    obtain ⟨us1, hus1, hone1, hcs1⟩ := hcut.cells ERule.one
    have hcut2 := hO.cut (lo := j) (hi := O.length) (by omega) (by omega)
    obtain ⟨oZ, cZ, hZ, _, _⟩ := hcut2.elimN (n := O.length - j) (by simp)
    rw [hZ, List.take_length] at hcut2
    obtain ⟨us2, hus2, hone2, hcs2⟩ := hcut2.cells ERule.one
    refine ol_pure rfl (op_val (op_slice_h sl_22 rfl rfl (by omega)) hY) ?_
    refine ol_step rfl (op_append (j := 0) (m := j) (news := us1) hS sl_22 el_30 rfl rfl rfl rfl rfl (by rw [hus1.1]; simp; omega) (by decide) (fun k u hu => ⟨(hcs1 k u hu).1, hS.hold.cell (hcs1 k u hu).2⟩) hone1 (by omega) (by unfold maxLen; omega)) ?_
    clear hS
    rintro _ w ⟨o6n, c_o6n, rfl, hS⟩; (try simp only [List.nil_append, List.cons_append, List.set] at hS)
    refine ol_pure rfl (op_assign rfl) ?_
    refine ol_nil ?_
    refine pq_then ?_
    refine cw_seq ?_
    refine cw_region ?_
    refine ol_pure rfl (op_move rfl) ?_
    refine ol_pure rfl (op_move rfl) ?_
    refine ol_pure rfl (op_move rfl) ?_
    refine ol_pure rfl (op_indexN sl_22 rfl rfl (by omega) hoa) ?_
    refine ol_load rfl (op_loadN agg_30 rfl (by rfl) (fun w hw k u hk => hw.gcell0 (hcells k u hk))) hS ?_
    refine ol_step rfl (op_buildSlice (el := 30) (is := [0]) (xs := [.tmp 57]) (sz := 3) (cs := [.int .i64 l[k].head, .slice op l[k].pos.length cp, .slice oq l[k].neg.length cq]) hS rfl rfl (fun w => by kernel_rfl) rfl (by decide)) ?_
    clear hS
    rintro _ w ⟨s58, rfl, hS⟩
    refine ol_step rfl (op_append (j := 1) hS sl_22 el_30 rfl rfl rfl rfl rfl rfl (by decide) (hS.news (j := 0) rfl) (by simp [Value.oneCell']) (by omega) (by unfold maxLen; omega)) ?_
    clear hS
    rintro _ w ⟨o6nn, c_o6nn, rfl, hS⟩; (try simp only [List.nil_append, List.cons_append, List.set] at hS); replace hS := SS.drop [] hS; (try simp only [List.nil_append, List.cons_append] at hS)
    refine ol_pure rfl (op_assign rfl) ?_
    refine ol_nil ?_
    refine pq_then ?_
    refine cw_seq ?_
    refine cw_region ?_
    refine ol_pure rfl (op_move rfl) ?_
    refine ol_pure rfl (op_move rfl) ?_
    refine ol_pure rfl (op_move rfl) ?_
    refine ol_pure rfl (op_val (op_slice_l sl_22 rfl rfl (by omega)) hZ) ?_
    refine ol_step rfl (op_append (j := 0) (m := O.length - j) (news := us2) hS sl_22 el_30 rfl rfl rfl rfl rfl (by rw [hus2.1]; simp) (by decide) (fun k u hu => ⟨(hcs2 k u hu).1, hS.hold.cell (hcs2 k u hu).2⟩) hone2 (by omega) (by unfold maxLen; omega)) ?_
    clear hS
    rintro _ w ⟨o6nnn, c_o6nnn, rfl, hS⟩; (try simp only [List.nil_append, List.cons_append, List.set] at hS)
    refine ol_pure rfl (op_assign rfl) ?_
    refine ol_nil ?_
    refine pq_then ?_
    refine cw_region ?_
    refine ol_pure rfl (op_move rfl) ?_
    refine ol_pure rfl (op_assign rfl) ?_
    refine ol_nil ?_
    refine pq_in_normal ?_
    refine pq_then ?_
    refine cw_region ?_
    refine ol_pure rfl (op_move rfl) ?_
    refine ol_pure rfl (op_add rfl rfl (by omega) (by omega)) ?_
    refine ol_pure rfl (op_assign rfl) ?_
    refine ol_nil ?_
    refine pq_loop _ _ (by exact (by
        obtain ⟨G9, hl9, hS9, hR9⟩ := SS.give' (O.take j ++ [l[k]] ++ O.drop j) [] ERule.mono hS (by decide) ((hus1.snoc (x := l[k]) (cs := [.int .i64 l[k].head, .slice op l[k].pos.length cp, .slice oq l[k].neg.length cq]) rfl ⟨_, _, rfl, hp.mono EInt.mono hlk, hq.mono EInt.mono hlk, hhd⟩).app hus2) (by simp; omega)
        exact ⟨k + 1, G9, o6nnn, c_o6nnn, _, by rw [show (O.take j ++ [l[k]] ++ O.drop j).length = 0 + j + 1 + (O.length - j) from by simp; omega], by omega, rfl, by rw [hsu, hin], hlk.trans hl9, by rw [show (O.take j ++ [l[k]] ++ O.drop j).length = 0 + j + 1 + (O.length - j) from by simp; omega]; exact hR9, hS9⟩)) ((Sub.cons rfl (Sub.cons rfl (Sub.cons rfl Sub.nil)))) (by omega)
 ·
  skip
  try simp only [decide_eq_true_eq, decide_eq_false_iff_not, Bool.not_eq_true', Bool.not_eq_false', Bool.not_eq_eq_eq_not, Bool.not_true, Bool.not_false] at h11
  refine cw_exit ?_
  refine pq_exit ?_
  refine pq_exit ?_
  refine pq_in_exit ?_
  refine pq_then ?_
  refine cw_seq ?_
  refine cw_region ?_
  refine ol_pure rfl (op_move rfl) ?_
  refine ol_pure rfl (op_assign rfl) ?_
  refine ol_nil ?_
  refine pq_then ?_
  refine cw_ret ?_
  refine ret1 rfl rfl ?_
  rw [List.take_of_length_le (show l.length ≤ k by omega)] at hOe
  subst hOe
  exact hS.rt _ hO
set_option maxRecDepth 100000 in
set_option maxHeartbeats 2000000 in

theorem R18_Made_c (G : GH) (w0 : World) (hG : Holds G w0) (v : Value) (l : List Rule) (h1 : RSl 3 ERule G v l) (z : Int) (hz : 0 ≤ z ∧ z ≤ 255) :
   Calls Try.prog 11 #[v, .int .u8 z] w0 (Rt G w0 (fun G v => ∃ va vr, v = .agg #[va, vr] ∧ RSl 1 ETriv G va (List.replicate (madeN z) ()) ∧ RSl 3 ERule G vr (madeR l (madeN z)))) := by
 obtain ⟨oa, c, rfl, hlc, hcm⟩ := h1.elim
 have hmr := madeN_range z
 refine enter Try.func11 rfl (N := 70) rfl (Nat.le_of_ble_eq_true rfl) ?_
 have hS := SS.init hG
 refine cw_seq ?_
 refine cw_region ?_
 refine ol_step rfl (op_alloc hS el_26 rfl) ?_
 clear hS
 rintro _ w ⟨b4, rfl, hS⟩
 refine ol_nil ?_
 refine pq_then ?_
 refine cw_seq ?_
 refine cw_region ?_
 refine ol_pure rfl (op_build (is := []) (xs := []) (v := .agg #[.slice none 0 0, .slice none 0 0]) rfl rfl (fun w => by kernel_rfl)) ?_
 refine ol_pure rfl (op_move rfl) ?_
 refine ol_pure rfl (op_conv ⟨_, Try.underlying5⟩ Try.underlying3 rfl (wrap_u8 hz)) ?_
 refine ol_pure rfl (op_rem rfl rfl (by omega) (by omega)) ?_
 refine ol_pure rfl (op_val (op_add rfl rfl (by omega) (by omega)) (v' := .int .i64 (madeN z : Nat)) (congrArg (Value.int .i64) (by unfold madeN; omega))) ?_
 refine ol_step rfl (op_alloc hS el_26 rfl) ?_
 clear hS
 rintro _ w ⟨b5, rfl, hS⟩
 refine ol_step0  (op_storeN (j := 0) hS sz_26 rfl rfl rfl rfl rfl (by simp [Value.oneCell'])) ?_
 clear hS
 rintro _ w hS; (try simp only [List.nil_append, List.cons_append, List.set] at hS)
 refine ol_pure rfl (op_assign rfl) ?_
 refine ol_nil ?_
 refine pq_then ?_
 refine cw_seq ?_
 refine cw_seq ?_
 refine cw_region ?_
 refine ol_pure rfl (op_assign rfl) ?_
 refine ol_nil ?_
 refine pq_then ?_
 refine cw_block ?_
 replace hS := SS.ins [_, _] hS 58 1
 refine cw_loop (fun e w n => ∃ k oa2 ca2 us, e = [(0, .slice oa l.length c), (4, .pointer (some ⟨b4, 0, none⟩)), (5, .pointer (some ⟨b5, 0, none⟩)), (6, .int .i64 (madeN z : Nat)), (7, .int .i64 (k : Nat))] ∧ k ≤ madeN z ∧ n = madeN z - k ∧ SS G w0 G [.blk b5 26 [.slice oa2 k ca2, .slice none 0 0], .blk b4 26 [.slice none 0 0, .slice none 0 0], .row oa2 k ca2 58 1 us] w) _ _ (by exact ⟨0, none, 0, [], rfl, Nat.zero_le _, rfl, hS⟩) ((Sub.cons rfl (Sub.cons rfl (Sub.cons rfl (Sub.cons rfl (Sub.cons rfl Sub.nil)))))) ?_
 clear hS
 rintro e w n ⟨k, oa2, ca2, us, rfl, hk, rfl, hS⟩
 refine cw_seq ?_
 refine cw_seq ?_
 refine cw_region ?_
 refine ol_pure rfl (op_move rfl) ?_
 refine ol_pure rfl (op_move rfl) ?_
 refine ol_pure rfl (op_lss rfl rfl) ?_
 refine ol_nil ?_
 refine pq_then ?_
 refine cw_cond rfl (fun h17 => ?_) (fun h17 => ?_)
 ·
  skip
  try simp only [decide_eq_true_eq, decide_eq_false_iff_not, Bool.not_eq_true', Bool.not_eq_false', Bool.not_eq_eq_eq_not, Bool.not_true, Bool.not_false] at h17
  have hlt : k < madeN z := by omega
  refine cw_skip ?_
  refine pq_then ?_
  refine cw_seq ?_
  refine cw_block ?_
  refine cw_region ?_
  refine ol_pure rfl (op_fieldAddr fld_26_0 rfl) ?_
  refine ol_load rfl (op_load1 one_24 rfl (fun w hw => (hw.bcell (i := 0) rfl).trans rfl)) hS ?_
  refine ol_pure rfl (op_build (is := [0, 1, 2]) (xs := [.const (.int .i64 (3)), .const (_), .const (.int .i64 (1))]) (v := .agg #[.int .i64 3, .string ⟨#[97]⟩, .int .i64 1]) rfl rfl (fun w => by kernel_rfl)) ?_
  refine ol_pure rfl (op_move rfl) ?_
  refine ol_pure rfl (op_build (is := [0, 2]) (xs := [.const (.int .i64 (2)), .tmp 23]) (v := .agg #[.int .i64 2, .string .empty, .int .i64 (k : Nat)]) rfl rfl (fun w => by kernel_rfl)) ?_
  refine ol_step rfl (op_buildSlice (el := 57) (is := [0, 1]) (xs := [.tmp 22, .tmp 24]) (sz := 3) (cs := [.int .i64 3, .string ⟨#[97]⟩, .int .i64 1, .int .i64 2, .string .empty, .int .i64 (k : Nat)]) hS rfl rfl (fun w => by kernel_rfl) rfl (by decide)) ?_
  clear hS
  rintro _ w ⟨s25, rfl, hS⟩
  refine ol_step rfl (op_buildSlice (el := 58) (is := [0]) (xs := [.tmp 25]) (sz := 1) (cs := [.slice s25 2 2]) hS rfl rfl (fun w => by kernel_rfl) rfl (by decide)) ?_
  clear hS
  rintro _ w ⟨s26, rfl, hS⟩
  refine ol_step rfl (op_append (j := 4) hS sl_24 el_58 rfl rfl rfl rfl rfl rfl (by decide) (hS.news (j := 0) rfl) (by simp [Value.oneCell']) (by omega) (by unfold maxLen; omega)) ?_
  clear hS
  rintro _ w ⟨atn, c_atn, rfl, hS⟩; (try simp only [List.nil_append, List.cons_append, List.set] at hS); replace hS := SS.drop [] hS; (try simp only [List.nil_append, List.cons_append] at hS)
  refine ol_pure rfl (op_fieldAddr fld_26_0 rfl) ?_
  refine ol_step0  (op_storeB (j := 1) (k := 0) hS sz_24 rfl rfl rfl rfl (by simp)) ?_
  clear hS
  rintro _ w hS; (try simp only [List.nil_append, List.cons_append, List.set] at hS)
  refine ol_nil ?_
  refine pq_in_normal ?_
  refine pq_then ?_
  refine cw_region ?_
  refine ol_pure rfl (op_move rfl) ?_
  refine ol_pure rfl (op_add rfl rfl (by omega) (by omega)) ?_
  refine ol_pure rfl (op_assign rfl) ?_
  refine ol_nil ?_
  refine pq_loop _ _ (by exact (by replace hS := SS.drop [] hS; exact ⟨k + 1, atn, c_atn, _, rfl, by omega, rfl, hS⟩)) ((Sub.cons rfl (Sub.cons rfl (Sub.cons rfl (Sub.cons rfl (Sub.cons rfl Sub.nil)))))) (by omega)
 ·
  skip
  try simp only [decide_eq_true_eq, decide_eq_false_iff_not, Bool.not_eq_true', Bool.not_eq_false', Bool.not_eq_eq_eq_not, Bool.not_true, Bool.not_false] at h17
  have hkn : k = madeN z := by omega
  refine cw_exit ?_
  refine pq_exit ?_
  refine pq_exit ?_
  refine pq_in_exit ?_
  refine pq_then ?_
  refine cw_seq ?_
  refine cw_region ?_
  refine ol_step rfl (op_buildSlice (el := 30) (is := []) (xs := []) (sz := 3) (cs := []) hS rfl rfl (fun w => by kernel_rfl) rfl (by decide)) ?_
  clear hS
  rintro _ w ⟨o8, rfl, hS⟩
  refine ol_pure rfl (op_assign rfl) ?_
  refine ol_nil ?_
  refine pq_then ?_
  refine cw_seq ?_
  refine cw_seq ?_
  refine cw_region ?_
  refine ol_pure rfl (op_assign rfl) ?_
  refine ol_nil ?_
  refine pq_then ?_
  refine cw_block ?_
  refine cw_loop (fun e w n => ∃ (j : Nat) (Gk : GH) (oR : Option Addr) (lR cR : Nat) (ur : List Value), e = [(0, .slice oa l.length c), (4, .pointer (some ⟨b4, 0, none⟩)), (5, .pointer (some ⟨b5, 0, none⟩)), (6, .int .i64 (madeN z : Nat)), (8, .slice oR lR cR), (9, .int .i64 (j : Nat))] ∧ j ≤ l.length ∧ j ≤ 24 ∧ n = 24 - j ∧ lR = j ∧ Le G Gk ∧ Rows 3 ERule Gk ur ((l.take j).map (fun r : Rule => (⟨r.head % 65536 % ((madeN z : Nat) : Int), setS r.pos (madeN z), setS r.neg (madeN z)⟩ : Rule))) ∧ SS G w0 Gk [.row oR lR cR 30 3 ur, .blk b5 26 [.slice oa2 k ca2, .slice none 0 0], .blk b4 26 [.slice none 0 0, .slice none 0 0], .row oa2 k ca2 58 1 us] w) _ _ (by exact ⟨0, G, o8, 0, _, [], rfl, Nat.zero_le _, Nat.zero_le _, rfl, rfl, Le.refl _, Rows.nil _, hS⟩) ((Sub.cons rfl (Sub.cons rfl (Sub.cons rfl (Sub.cons rfl (Sub.cons rfl (Sub.cons rfl Sub.nil))))))) ?_
  clear hS
  rintro e w n ⟨j, Gk, oR, lR, cR, ur, rfl, hj, hj24, rfl, hlR, hlk, hrw, hS⟩
  refine cw_seq ?_
  refine cw_seq ?_
  refine cw_region ?_
  refine ol_pure rfl (op_move rfl) ?_
  refine ol_pure rfl (op_move rfl) ?_
  refine ol_pure rfl (op_len sl_22 rfl rfl) ?_
  refine ol_pure rfl (op_lss rfl rfl) ?_
  refine ol_pure rfl (op_move rfl) ?_
  refine ol_split (fun h34 => ?_) (fun h34 => ?_)
  ·
   skip
   try simp only [decide_eq_true_eq, decide_eq_false_iff_not, Bool.not_eq_true', Bool.not_eq_false', Bool.not_eq_eq_eq_not, Bool.not_true, Bool.not_false] at h34
   refine ol_guard_pure rfl rfl rfl (op_move rfl) ?_
   refine ol_guard_pure rfl rfl rfl (op_lss rfl rfl) ?_
   refine ol_pure rfl (op_pick_t rfl rfl) ?_
   refine ol_nil ?_
   refine pq_then ?_
   refine cw_cond rfl (fun h37 => ?_) (fun h37 => ?_)
   ·
    skip
    try simp only [decide_eq_true_eq, decide_eq_false_iff_not, Bool.not_eq_true', Bool.not_eq_false', Bool.not_eq_eq_eq_not, Bool.not_true, Bool.not_false] at h37
    have hlt : j < l.length := by omega
    obtain ⟨hoa, _, _, ⟨p, q, rfl, hp, hq, hhd⟩, hcells⟩ := h1.el hlt
    obtain ⟨op, cp, hpe, _, _⟩ := hp.elim
    obtain ⟨oq, cq, hqe, _, _⟩ := hq.elim
    subst hpe
    subst hqe
    have hm0 : 0 ≤ l[j].head % 65536 % ((madeN z : Nat) : Int) := Int.emod_nonneg _ (by omega)
    have hm1 : l[j].head % 65536 % ((madeN z : Nat) : Int) < (madeN z : Nat) := Int.emod_lt_of_pos _ (by omega)
    refine cw_skip ?_
    refine pq_then ?_
    refine cw_seq ?_
    refine cw_block ?_
    refine al_start' hS (hS.take 0) (by kernel_rfl) rfl (fun w hS hT => ?_)
    refine al_take (i := 0) rfl (by kernel_rfl) (by kernel_rfl) (by kernel_rfl) rfl (fun _ _ _ h => h) (op_move rfl) rfl ?_
    refine al_take (i := 1) rfl (by kernel_rfl) (by kernel_rfl) (by kernel_rfl) rfl (fun _ _ _ h => h) (op_move rfl) rfl ?_
    refine al_take (i := 2) rfl (by kernel_rfl) (by kernel_rfl) (by kernel_rfl) rfl (fun _ _ _ h => h) (op_move rfl) rfl ?_
    refine al_take (i := 3) rfl (by kernel_rfl) (by kernel_rfl) (by kernel_rfl) rfl (fun _ _ _ h => h) (op_indexN sl_22 rfl rfl (by omega) hoa) rfl ?_
    refine al_take (i := 4) rfl (by kernel_rfl) (by kernel_rfl) (by kernel_rfl) rfl (fun _ _ _ h => h) (op_fieldAddr fld_30_0 rfl) rfl ?_
    refine al_load (i := 5) rfl (by kernel_rfl) (by kernel_rfl) (by kernel_rfl) rfl (fun _ _ _ h => h) (by exact op_load1 one_3 rfl (fun w hw => hw.gcell0 (hcells 0 _ rfl))) rfl hT ?_
    refine al_take (i := 6) rfl (by kernel_rfl) (by kernel_rfl) (by kernel_rfl) rfl (fun _ _ _ h => h) (op_val (op_and rfl rfl) (congrArg (Value.int .i64) (and16 _))) rfl ?_
    refine al_take (i := 7) rfl (by kernel_rfl) (by kernel_rfl) (by kernel_rfl) rfl (fun _ _ _ h => h) (op_move rfl) rfl ?_
    refine al_take (i := 8) rfl (by kernel_rfl) (by kernel_rfl) (by kernel_rfl) rfl (fun _ _ _ h => h) (op_rem rfl rfl (by omega) (by omega)) rfl ?_
    refine al_take (i := 9) rfl (by kernel_rfl) (by kernel_rfl) (by kernel_rfl) rfl (fun _ _ _ h => h) (op_move rfl) rfl ?_
    refine al_take (i := 10) rfl (by kernel_rfl) (by kernel_rfl) (by kernel_rfl) rfl (fun _ _ _ h => h) (op_move rfl) rfl ?_
    refine al_take (i := 11) rfl (by kernel_rfl) (by kernel_rfl) (by kernel_rfl) rfl (fun _ _ _ h => h) (op_indexN sl_22 rfl rfl (by omega) hoa) rfl ?_
    refine al_take (i := 12) rfl (by kernel_rfl) (by kernel_rfl) (by kernel_rfl) rfl (fun _ _ _ h => h) (op_fieldAddr fld_30_1 rfl) rfl ?_
    refine al_load (i := 13) rfl (by kernel_rfl) (by kernel_rfl) (by kernel_rfl) rfl (fun _ _ _ h => h) (by exact op_load1 one_28 rfl (fun w hw => hw.gcell0 (hcells 1 _ rfl))) rfl hT ?_
    refine al_take (i := 14) rfl (by kernel_rfl) (by kernel_rfl) (by kernel_rfl) rfl (fun _ _ _ h => h) (op_move rfl) rfl ?_
    refine al_take (i := 16) rfl (by kernel_rfl) (by kernel_rfl) (by kernel_rfl) rfl (fun _ _ _ h => h) (op_move rfl) rfl ?_
    refine al_take (i := 17) rfl (by kernel_rfl) (by kernel_rfl) (by kernel_rfl) rfl (fun _ _ _ h => h) (op_move rfl) rfl ?_
    refine al_take (i := 18) rfl (by kernel_rfl) (by kernel_rfl) (by kernel_rfl) rfl (fun _ _ _ h => h) (op_indexN sl_22 rfl rfl (by omega) hoa) rfl ?_
    refine al_take (i := 19) rfl (by kernel_rfl) (by kernel_rfl) (by kernel_rfl) rfl (fun _ _ _ h => h) (op_fieldAddr fld_30_2 rfl) rfl ?_
    refine al_load (i := 20) rfl (by kernel_rfl) (by kernel_rfl) (by kernel_rfl) rfl (fun _ _ _ h => h) (by exact op_load1 one_28 rfl (fun w hw => hw.gcell0 (hcells 2 _ rfl))) rfl hT ?_
    refine al_take (i := 21) rfl (by kernel_rfl) (by kernel_rfl) (by kernel_rfl) rfl (fun _ _ _ h => h) (op_move rfl) rfl ?_
    refine al_step (i := 15) rfl (by kernel_rfl) rfl (op_call_fr hS cf_30 rfl (R18_set_c _ _ hS.hold _ l[j].pos (hp.mono EInt.mono hlk) (madeN z) (by omega) (by omega))) ?_
    clear hS
    rintro v55 w ⟨F55, G55, hR55, hF55, hf55, hl55, hS⟩
    obtain ⟨o55, c55, rfl, _, _⟩ := hR55.elim
    have hj55 := hlk.trans hl55
    have hT := hT.back hS (by first | exact Le.refl _ | assumption) (fun x hx => by simp at hx)
    refine ⟨fun _ _ => hT, ?_⟩
    refine al_step (i := 22) rfl (by kernel_rfl) rfl (op_call_fr hS cf_30 rfl (R18_set_c _ _ hS.hold _ l[j].neg (hq.mono EInt.mono hj55) (madeN z) (by omega) (by omega))) ?_
    clear hS
    rintro v62 w ⟨F62, G62, hR62, hF62, hf62, hl62, hS⟩
    obtain ⟨o62, c62, rfl, _, _⟩ := hR62.elim
    have hj62 := hj55.trans hl62
    have hjk := hl55.trans hl62
    have hT := hT.back hS (by first | exact Le.refl _ | assumption) (fun x hx => by simp at hx)
    refine ⟨fun _ _ => hT, ?_⟩
    refine al_take (i := 23) rfl (by kernel_rfl) (by kernel_rfl) (by kernel_rfl) rfl (fun _ _ _ h => h) (op_build (is := [0, 1, 2]) (xs := [.tmp 48, .tmp 55, .tmp 62]) (v := .agg #[.int .i64 (l[j].head % 65536 % (madeN z : Nat)), .slice o55 (setS l[j].pos (madeN z)).length c55, .slice o62 (setS l[j].neg (madeN z)).length c62]) rfl rfl (fun w => by kernel_rfl)) rfl ?_
    refine al_step (i := 24) rfl (by kernel_rfl) rfl (op_buildSlice (el := 30) (is := [0]) (xs := [.tmp 63]) (sz := 3) (cs := [.int .i64 (l[j].head % 65536 % (madeN z : Nat)), .slice o55 (setS l[j].pos (madeN z)).length c55, .slice o62 (setS l[j].neg (madeN z)).length c62]) hS rfl rfl (fun w => by kernel_rfl) rfl (by decide)) ?_
    clear hS
    rintro _ w ⟨s64, rfl, hS⟩
    have hT := hT.back hS (by first | exact Le.refl _ | assumption) (fun x hx => by simp at hx)
    refine ⟨fun _ _ => hT, ?_⟩
    refine al_step (i := 25) rfl (by kernel_rfl) rfl (op_append (j := 1) hS sl_22 el_30 rfl rfl rfl rfl rfl rfl (by decide) (hS.news (j := 0) rfl) (by simp [Value.oneCell']) (by omega) (by unfold maxLen; omega)) ?_
    clear hS
    rintro _ w ⟨o8n, c_o8n, rfl, hS⟩; (try simp only [List.nil_append, List.cons_append, List.set] at hS); replace hS := SS.drop [] hS; (try simp only [List.nil_append, List.cons_append] at hS)
    have hT := hT.back hS (by first | exact Le.refl _ | assumption) (fun x hx => by simp at hx)
    refine ⟨fun _ _ => hT, ?_⟩
    refine al_take (i := 26) rfl (by kernel_rfl) (by kernel_rfl) (by kernel_rfl) rfl (fun _ _ _ h => h) (op_assign rfl) rfl ?_
    refine al_done (by kernel_rfl) ?_
    refine pq_in_normal ?_
    refine pq_then ?_
    refine cw_region ?_
    refine ol_pure rfl (op_move rfl) ?_
    refine ol_pure rfl (op_add rfl rfl (by omega) (by omega)) ?_
    refine ol_pure rfl (op_assign rfl) ?_
    refine ol_nil ?_
    refine pq_loop _ _ (by exact (by
        have he : (l.take (j + 1)).map (fun r : Rule => (⟨r.head % 65536 % ((madeN z : Nat) : Int), setS r.pos (madeN z), setS r.neg (madeN z)⟩ : Rule)) = (l.take j).map (fun r : Rule => (⟨r.head % 65536 % ((madeN z : Nat) : Int), setS r.pos (madeN z), setS r.neg (madeN z)⟩ : Rule)) ++ [(fun r : Rule => (⟨r.head % 65536 % ((madeN z : Nat) : Int), setS r.pos (madeN z), setS r.neg (madeN z)⟩ : Rule)) l[j]] := by rw [List.take_succ_eq_append_getElem hlt, List.map_append]; rfl
        exact ⟨j + 1, G62, o8n, lR + 1, c_o8n, _, rfl, by omega, by omega, rfl, by omega, hj62, by rw [he]; exact (hrw.mono ERule.mono hjk).snoc (x := (fun r : Rule => (⟨r.head % 65536 % ((madeN z : Nat) : Int), setS r.pos (madeN z), setS r.neg (madeN z)⟩ : Rule)) l[j]) (cs := [.int .i64 (l[j].head % 65536 % (madeN z : Nat)), .slice o55 (setS l[j].pos (madeN z)).length c55, .slice o62 (setS l[j].neg (madeN z)).length c62]) rfl ⟨_, _, rfl, (hR55.mono EInt.mono hf55).mono EInt.mono hl62, hR62.mono EInt.mono hf62, by show (-9223372036854775808 : Int) ≤ l[j].head % 65536 % ((madeN z : Nat) : Int); omega, by show l[j].head % 65536 % ((madeN z : Nat) : Int) ≤ 9223372036854775807; omega⟩, hS⟩)) ((Sub.cons rfl (Sub.cons rfl (Sub.cons rfl (Sub.cons rfl (Sub.cons rfl (Sub.cons rfl Sub.nil))))))) (by omega)
   ·
    skip
    try simp only [decide_eq_true_eq, decide_eq_false_iff_not, Bool.not_eq_true', Bool.not_eq_false', Bool.not_eq_eq_eq_not, Bool.not_true, Bool.not_false] at h37
    have htk : l.take j = l.take 24 := by
      by_cases h4 : j = 24
      · rw [h4]
      · rw [List.take_of_length_le (by omega : l.length ≤ j), List.take_of_length_le (by omega : l.length ≤ 24)]
    have hll : ((l.take 24).map (fun r : Rule => (⟨r.head % 65536 % ((madeN z : Nat) : Int), setS r.pos (madeN z), setS r.neg (madeN z)⟩ : Rule))).length ≤ 24 := by simp; omega
    rw [htk] at hrw
    obtain ⟨G66, hl66, hS2, hR66⟩ := SS.give' ((l.take 24).map (fun r : Rule => (⟨r.head % 65536 % ((madeN z : Nat) : Int), setS r.pos (madeN z), setS r.neg (madeN z)⟩ : Rule))) [] ERule.mono hS (by decide) hrw (by rw [← htk]; simp; omega)
    clear hS
    have hS := hS2
    clear hS2
    (try simp only [List.nil_append] at hS)
    obtain ⟨oR6, cR6, hRe, _, _⟩ := hR66.elim
    refine cw_exit ?_
    refine pq_exit ?_
    refine pq_exit ?_
    refine pq_in_exit ?_
    refine pq_then ?_
    refine cw_seq ?_
    refine cw_region ?_
    refine ol_pure rfl (op_move rfl) ?_
    refine ol_step rfl (op_call_rt hS cf_12 rfl (fun _ => .inr rfl) (fun _ _ _ hl h => h.mono ERule.mono hl) (R18_Rules_c _ _ hS.hold _ _ hR66 (by omega))) ?_
    clear hS
    rintro v67 w ⟨G67, hl67, hR67, hS⟩
    obtain ⟨o67, c67, rfl, _, _⟩ := (show RSl 3 ERule G67 v67 (madeR l (madeN z)) from hR67).elim
    replace hR67 : RSl 3 ERule G67 (.slice o67 (madeR l (madeN z)).length c67) (madeR l (madeN z)) := hR67
    refine ol_pure rfl (op_fieldAddr fld_26_1 rfl) ?_
    refine ol_step0  (op_storeB (j := 0) (k := 1) hS sz_22 rfl rfl rfl rfl (by simp)) ?_
    clear hS
    rintro _ w hS; (try simp only [List.nil_append, List.cons_append, List.set] at hS)
    refine ol_nil ?_
    refine pq_then ?_
    refine cw_seq ?_
    refine cw_region ?_
    refine ol_load rfl (op_loadN agg_26 rfl (by rfl) (fun w hw k u hk => (hw.bcell (i := 0) rfl).trans hk)) hS ?_
    refine ol_step0  (op_storeN (j := 1) hS sz_26 rfl rfl rfl rfl rfl (by simp [Value.oneCell'])) ?_
    clear hS
    rintro _ w hS; (try simp only [List.nil_append, List.cons_append, List.set] at hS)
    refine ol_nil ?_
    refine pq_then ?_
    refine cw_ret ?_
    refine retN rfl agg_26 rfl (by rfl) (fun k u hk => (hS.bcell (i := 1) rfl).trans hk) ?_
    have hul := (hS.row_len [_, _]).1
    obtain ⟨Ga, hla, hSa, hAa⟩ := SS.give' (List.replicate (madeN z) ()) [_, _] ETriv.mono hS (by decide) ⟨by rw [hul, hkn]; simp, fun _ _ _ => trivial⟩ (by simp [hkn])
    exact hSa.rt _ ⟨_, _, rfl, hAa, (by exact hR67.mono ERule.mono hla)⟩
  ·
   skip
   try simp only [decide_eq_true_eq, decide_eq_false_iff_not, Bool.not_eq_true', Bool.not_eq_false', Bool.not_eq_eq_eq_not, Bool.not_true, Bool.not_false] at h34
   have htk : l.take j = l.take 24 := by
     by_cases h4 : j = 24
     · rw [h4]
     · rw [List.take_of_length_le (by omega : l.length ≤ j), List.take_of_length_le (by omega : l.length ≤ 24)]
   have hll : ((l.take 24).map (fun r : Rule => (⟨r.head % 65536 % ((madeN z : Nat) : Int), setS r.pos (madeN z), setS r.neg (madeN z)⟩ : Rule))).length ≤ 24 := by simp; omega
   rw [htk] at hrw
   obtain ⟨G66, hl66, hS2, hR66⟩ := SS.give' ((l.take 24).map (fun r : Rule => (⟨r.head % 65536 % ((madeN z : Nat) : Int), setS r.pos (madeN z), setS r.neg (madeN z)⟩ : Rule))) [] ERule.mono hS (by decide) hrw (by rw [← htk]; simp; omega)
   clear hS
   have hS := hS2
   clear hS2
   (try simp only [List.nil_append] at hS)
   obtain ⟨oR6, cR6, hRe, _, _⟩ := hR66.elim
   refine ol_guard_no rfl rfl rfl rfl ?_
   refine ol_guard_no rfl rfl rfl rfl ?_
   refine ol_pure rfl (op_pick_f rfl rfl) ?_
   refine ol_nil ?_
   refine pq_then ?_
   refine cw_cond_f rfl ?_
   refine cw_exit ?_
   refine pq_exit ?_
   refine pq_exit ?_
   refine pq_in_exit ?_
   refine pq_then ?_
   refine cw_seq ?_
   refine cw_region ?_
   refine ol_pure rfl (op_move rfl) ?_
   refine ol_step rfl (op_call_rt hS cf_12 rfl (fun _ => .inr rfl) (fun _ _ _ hl h => h.mono ERule.mono hl) (R18_Rules_c _ _ hS.hold _ _ hR66 (by omega))) ?_
   clear hS
   rintro v67 w ⟨G67, hl67, hR67, hS⟩
   obtain ⟨o67, c67, rfl, _, _⟩ := (show RSl 3 ERule G67 v67 (madeR l (madeN z)) from hR67).elim
   replace hR67 : RSl 3 ERule G67 (.slice o67 (madeR l (madeN z)).length c67) (madeR l (madeN z)) := hR67
   refine ol_pure rfl (op_fieldAddr fld_26_1 rfl) ?_
   refine ol_step0  (op_storeB (j := 0) (k := 1) hS sz_22 rfl rfl rfl rfl (by simp)) ?_
   clear hS
   rintro _ w hS; (try simp only [List.nil_append, List.cons_append, List.set] at hS)
   refine ol_nil ?_
   refine pq_then ?_
   refine cw_seq ?_
   refine cw_region ?_
   refine ol_load rfl (op_loadN agg_26 rfl (by rfl) (fun w hw k u hk => (hw.bcell (i := 0) rfl).trans hk)) hS ?_
   refine ol_step0  (op_storeN (j := 1) hS sz_26 rfl rfl rfl rfl rfl (by simp [Value.oneCell'])) ?_
   clear hS
   rintro _ w hS; (try simp only [List.nil_append, List.cons_append, List.set] at hS)
   refine ol_nil ?_
   refine pq_then ?_
   refine cw_ret ?_
   refine retN rfl agg_26 rfl (by rfl) (fun k u hk => (hS.bcell (i := 1) rfl).trans hk) ?_
   have hul := (hS.row_len [_, _]).1
   obtain ⟨Ga, hla, hSa, hAa⟩ := SS.give' (List.replicate (madeN z) ()) [_, _] ETriv.mono hS (by decide) ⟨by rw [hul, hkn]; simp, fun _ _ _ => trivial⟩ (by simp [hkn])
   exact hSa.rt _ ⟨_, _, rfl, hAa, (by exact hR67.mono ERule.mono hla)⟩
end Go.Proofs.Ytmkgechdfimfnaa.K
