/-
  The part of a proof that an atom needs, as layer just finds it.
  No condition but the premises that each theorem names.
-/
import Derived.Test.YtmkgechdfimfnaaR21a
import Derived.Test.YtmkgechdfimfnaaPlo
import Derived.Test.YtmkgechdfimfnaaMade
namespace Go.Proofs.Ytmkgechdfimfnaa.K
open Go Go.RowKit
set_option linter.unusedVariables false
set_option linter.unusedSimpArgs false

open Pl
theorem RSl.val {m : List Int} {oa : Option Addr} {n c : Nat} {G : GH} (h : RSl 1 EInt G (.slice oa n c) m) {a : Int} (h0 : 0 ≤ a) (ha : a < m.length) : oa.isSome = true ∧ n = m.length ∧ gcell G (elA oa (a.toNat * 1)) = some (.int .i64 (valI m a)) ∧ -9223372036854775808 ≤ valI m a ∧ valI m a ≤ 9223372036854775807 := by
  have hj : a.toNat < m.length := by omega
  obtain ⟨h1, h2, h3⟩ := h.int hj
  have he : valI m a = m[a.toNat] := by simp [valI, hj]
  rw [he]
  exact ⟨h1, h.len.1, h2, h3⟩
def ahO (oa : Option Addr) (c : Nat) (i : Int) : Option Addr := if 0 ≤ i then (if c = i.toNat then oa else oa.map (·.add (i.toNat * 1))) else none
def ahN (i : Int) : Nat := if 0 ≤ i then 1 else 0
def ahC (c : Nat) (i : Int) : Nat := if 0 ≤ i then c - i.toNat else 0
theorem ah_read {G : GH} {oa : Option Addr} {n c : Nat} {ns : List Int} (h : RSl 1 EInt G (.slice oa n c) ns) {i : Int} (hi : i < ns.length) : RSl 1 EInt G (.slice (ahO oa c i) (ahN i) (ahC c i)) (pickA ns i) := by
  by_cases h0 : 0 ≤ i
  · obtain ⟨k, rfl⟩ := Int.eq_ofNat_of_zero_le h0
    have hk : k < ns.length := by omega
    have hn := h.len
    have h2 := h.cut (lo := k) (hi := k + 1) (by omega) (by omega)
    unfold ahO ahN ahC pickA
    rw [if_pos h0, if_pos h0, if_pos h0, if_pos h0]
    have h3 : (ns.take (k + 1)).drop k = [ns.getD ((k : Nat) : Int).toNat 0] := by
      rw [List.take_succ_eq_append_getElem hk, List.drop_left' (by simp; omega)]
      simp [hk]
    rw [h3, show k + 1 - k = 1 from by omega] at h2
    exact h2
  · unfold ahO ahN ahC
    rw [if_neg h0, if_neg h0, if_neg h0, pickA_neg (by omega)]
    exact RSl.nil G
theorem op_sliceLH {P : Program} {N : Nat} {e : Env} {d : Option Tmp} {ty : TypeId} {pos : String} {after : Array Edge} {g : Option (Nat × Bool)} : True := trivial

set_option maxRecDepth 100000 in

theorem just_first_1_c (G : GH) (w0 : World) (hG : Holds G w0) (s : Step) (u : Value) (b : Nat) (a : Int) (h1 : RSl 1 EInt G u s.atoms) (hb : gcell G ⟨b, 0, none⟩ = some (.int .i64 a)) :
   Calls Try.prog 65 #[.agg #[.int .i64 s.rule, u], .pointer (some ⟨b, 0, none⟩)] w0 (Sc w0 (.bool (decide (a ∈ s.atoms)))) := by
 refine enter Try.func65 rfl (N := 8) rfl (Nat.le_of_ble_eq_true rfl) ?_
 have hS := SS.init hG
 refine cw_seq ?_
 refine cw_region ?_
 refine ol_step rfl (op_box hS rfl rfl) ?_
 clear hS
 rintro _ w ⟨b2, rfl, hS⟩
 refine ol_pure rfl (op_assign rfl) ?_
 refine ol_nil ?_
 refine pq_then ?_
 refine cw_seq ?_
 refine cw_region ?_
 refine ol_pure rfl (op_fieldAddr fld_37_1 rfl) ?_
 refine ol_load rfl (op_load1 one_28 rfl (fun w hw => (hw.bcell (i := 0) rfl).trans rfl)) hS ?_
 refine ol_load rfl (op_load1 one_3 rfl (fun w hw => hw.gcell0 hb)) hS ?_
 refine ol_step rfl (op_call_sc hS cf_44 rfl (slices_Contains_c G _ hS.hold u s.atoms h1 a)) ?_
 clear hS
 rintro _ w ⟨rfl, hS⟩
 refine ol_pure rfl (op_assign rfl) ?_
 refine ol_nil ?_
 refine pq_then ?_
 refine cw_ret ?_
 refine ret1 rfl rfl ?_
 exact hS.sc_b rfl
set_option maxRecDepth 100000 in
set_option maxHeartbeats 400000 in

theorem just_first_c (G : GH) (w0 : World) (hG : Holds G w0) {α : Type} {E : ER α} (hE : EMono E) (va vr : Value) (atoms : List α) (rs : List Rule) (h1 : RSl 1 E G va atoms) (h2 : RSl 3 ERule G vr rs) (hP : PrOk atoms.length rs) (vs vh : Value) (l : List Step) (h5 : RSl 2 EStep G vs l) (hvh : ∃ o n c, vh = .slice o n c)  :
   Calls Try.prog 41 #[.agg #[va, vr], .agg #[vs, vh]] w0 (Rt noG w0 (fun G v => RSl 1 EInt G v (byL atoms.length l))) := by
 obtain ⟨oA, cA, rfl, hlA, hmA⟩ := h1.elim
 obtain ⟨oR, cR, rfl, hlR, hmR⟩ := h2.elim
 have hle1 := h1.le
 have hle2 := h2.le
 have hPn := hP.n_le
 have hPm := hP.m_le
 obtain ⟨oP, cP, rfl, hlP, hmP⟩ := h5.elim
 have hPle := h5.le
 obtain ⟨oh, nh, ch, rfl⟩ := hvh
 refine enter Try.func41 rfl (N := 24) rfl (Nat.le_of_ble_eq_true rfl) ?_
 have hS := SS.init hG
 refine cw_seq ?_
 refine cw_region ?_
 refine ol_step rfl (op_box hS rfl rfl) ?_
 clear hS
 rintro _ w ⟨b2, rfl, hS⟩
 refine ol_step rfl (op_box hS rfl rfl) ?_
 clear hS
 rintro _ w ⟨b3, rfl, hS⟩
 refine ol_pure rfl (op_assign rfl) ?_
 refine ol_nil ?_
 refine pq_then ?_
 refine cw_seq ?_
 refine cw_region ?_
 refine ol_pure rfl (op_assign rfl) ?_
 refine ol_nil ?_
 refine pq_then ?_
 refine cw_seq ?_
 refine cw_seq ?_
 refine cw_region ?_
 refine ol_pure rfl (op_fieldAddr fld_26_0 rfl) ?_
 refine ol_load rfl (op_load1 one_24 rfl (fun w hw => (hw.bcell (i := 1) rfl).trans rfl)) hS ?_
 refine ol_pure rfl (op_len sl_24 rfl rfl) ?_
 refine ol_pure rfl (op_move rfl) ?_
 refine ol_nil ?_
 refine pq_then ?_
 refine cw_block ?_
 refine cw_loop (fun e w n => ∃ k o5 c5, e = [(3, .pointer (some ⟨b3, 0, none⟩)), (5, .slice o5 k c5), (10, .int .i64 (atoms.length : Nat)), (11, .int .i64 (k : Nat))] ∧ k ≤ atoms.length ∧ n = atoms.length - k ∧ SS G w0 G [.row o5 k c5 3 1 ((byL k l).map (Value.int .i64)), .blk b3 34 [.slice oP l.length cP, .slice oh nh ch], .blk b2 26 [.slice oA atoms.length cA, .slice oR rs.length cR]] w) _ _ (by exact ⟨0, none, 0, rfl, Nat.zero_le _, rfl, hS.nil 3 1⟩) ((Sub.cons rfl (Sub.cons rfl (Sub.cons rfl (Sub.cons rfl Sub.nil))))) ?_
 clear hS
 rintro e w n ⟨k, o5, c5, rfl, hk, rfl, hS⟩
 refine cw_seq ?_
 refine cw_region ?_
 refine ol_pure rfl (op_lss rfl rfl) ?_
 refine ol_nil ?_
 refine pq_then ?_
 refine cw_seq ?_
 refine cw_cond rfl (fun h12 => ?_) (fun h12 => ?_)
 ·
  skip
  try simp only [decide_eq_true_eq, decide_eq_false_iff_not, Bool.not_eq_true', Bool.not_eq_false', Bool.not_eq_eq_eq_not, Bool.not_true, Bool.not_false] at h12
  have hlt : k < atoms.length := by omega
  refine cw_skip ?_
  refine pq_then ?_
  refine cw_seq ?_
  refine cw_block ?_
  refine cw_seq ?_
  refine cw_region ?_
  refine ol_pure rfl (op_move rfl) ?_
  refine ol_step rfl (op_alloc hS el_3 rfl) ?_
  clear hS
  rintro _ w ⟨b6, rfl, hS⟩
  refine ol_step0  (op_storeB0 (j := 0) hS sz_3 rfl rfl rfl rfl) ?_
  clear hS
  rintro _ w hS; (try simp only [List.nil_append, List.cons_append, List.set] at hS)
  refine ol_nil ?_
  refine pq_then ?_
  refine cw_seq ?_
  refine cw_region ?_
  refine ol_pure rfl (op_makeFunc rfl rfl) ?_
  refine ol_pure rfl (op_assign rfl) ?_
  refine ol_nil ?_
  refine pq_then ?_
  refine cw_region ?_
  refine ol_pure rfl (op_move rfl) ?_
  refine ol_pure rfl (op_fieldAddr fld_34_0 rfl) ?_
  refine ol_load rfl (op_load1 one_32 rfl (fun w hw => (hw.bcell (i := 2) rfl).trans rfl)) hS ?_
  refine ol_pure rfl (op_move rfl) ?_
  refine ol_step rfl (op_call_sc hS cf_66 rfl (slices_IndexFunc_Step_c (fullG _) _ (Holds.full _) _ l (h5.mono EStep.mono hS.hold.le_full) (fun s => decide ((k : Int) ∈ s.atoms)) 65 [.pointer (some ⟨b6, 0, none⟩)] cf_65 (fun w1 hB s hs a ha => just_first_1_c (fullG _) w1 ((Holds.full _).below hB) s a b6 (k : Int) ha (hS.bcell0 (i := 0) rfl)))) ?_
  clear hS
  rintro _ w ⟨rfl, hS⟩
  rw [show findP (fun s : Step => decide ((k : Int) ∈ s.atoms)) l = byI l (k : Int) from rfl]
  refine ol_step rfl (op_buildSlice (el := 3) (is := [0]) (xs := [.tmp 19]) (sz := 1) (cs := [.int .i64 (byI l (k : Int))]) hS rfl rfl (fun w => by kernel_rfl) rfl (by decide)) ?_
  clear hS
  rintro _ w ⟨s20, rfl, hS⟩
  refine ol_step rfl (op_append (j := 2) hS sl_28 el_3 rfl rfl rfl rfl rfl rfl (by decide) (hS.news (j := 0) rfl) (by simp [Value.oneCell']) (by omega) (by unfold maxLen; omega)) ?_
  clear hS
  rintro _ w ⟨o5n, c_o5n, rfl, hS⟩; (try simp only [List.nil_append, List.cons_append, List.set] at hS); replace hS := SS.drop [] hS; (try simp only [List.nil_append, List.cons_append] at hS)
  refine ol_pure rfl (op_assign rfl) ?_
  refine ol_nil ?_
  refine pq_in_normal ?_
  refine pq_then ?_
  refine cw_region ?_
  refine ol_pure rfl (op_add rfl rfl (by omega) (by omega)) ?_
  refine ol_pure rfl (op_move rfl) ?_
  refine ol_nil ?_
  refine pq_loop _ _ (by exact (by
      replace hS := SS.drop [] hS
      exact ⟨k + 1, o5n, c_o5n, rfl, by omega, rfl, by rw [byL_succ, List.map_append]; exact hS⟩)) ((Sub.cons rfl (Sub.cons rfl (Sub.cons rfl (Sub.cons rfl Sub.nil))))) (by omega)
 ·
  skip
  try simp only [decide_eq_true_eq, decide_eq_false_iff_not, Bool.not_eq_true', Bool.not_eq_false', Bool.not_eq_eq_eq_not, Bool.not_true, Bool.not_false] at h12
  refine cw_exit ?_
  refine pq_exit ?_
  refine pq_exit ?_
  refine pq_in_exit ?_
  refine pq_then ?_
  refine cw_seq ?_
  refine cw_region ?_
  refine ol_pure rfl (op_move rfl) ?_
  refine ol_pure rfl (op_assign rfl) ?_
  refine ol_nil ?_
  refine pq_then ?_
  refine cw_ret ?_
  refine ret1 rfl rfl ?_
  have hk0 : k = atoms.length := by omega
  subst hk0
  exact hS.rt_row [] (by decide) (Rows.ints (l := byL atoms.length l) fun x hx => by have := byL_range x hx; omega) EInt.mono (byL_len _ _).symm
set_option maxRecDepth 100000 in
set_option maxHeartbeats 1000000 in

theorem just_Known_c (G : GH) (w0 : World) (hG : Holds G w0) {α : Type} {E : ER α} (hE : EMono E) (va vr : Value) (atoms : List α) (rs : List Rule) (h1 : RSl 1 E G va atoms) (h2 : RSl 3 ERule G vr rs) (hP : PrOk atoms.length rs) (vs vh : Value) (l : List Step) (h5 : RSl 2 EStep G vs l) (hvh : ∃ o n c, vh = .slice o n c)  :
   Calls Try.prog 19 #[.agg #[va, vr], .agg #[vs, vh]] w0 (Rt noG w0 (fun G v => RSl 1 EInt G v (knownI atoms.length l))) := by
 obtain ⟨oA, cA, rfl, hlA, hmA⟩ := h1.elim
 obtain ⟨oR, cR, rfl, hlR, hmR⟩ := h2.elim
 have hle1 := h1.le
 have hle2 := h2.le
 have hPn := hP.n_le
 have hPm := hP.m_le
 obtain ⟨oP, cP, rfl, hlP, hmP⟩ := h5.elim
 have hPle := h5.le
 obtain ⟨oh, nh, ch, rfl⟩ := hvh
 refine enter Try.func19 rfl (N := 38) rfl (Nat.le_of_ble_eq_true rfl) ?_
 have hS := SS.init hG
 refine cw_seq ?_
 refine cw_region ?_
 refine ol_step rfl (op_box hS rfl rfl) ?_
 clear hS
 rintro _ w ⟨b2, rfl, hS⟩
 refine ol_step rfl (op_box hS rfl rfl) ?_
 clear hS
 rintro _ w ⟨b3, rfl, hS⟩
 refine ol_pure rfl (op_assign rfl) ?_
 refine ol_nil ?_
 refine pq_then ?_
 refine cw_seq ?_
 refine cw_region ?_
 refine ol_pure rfl (op_assign rfl) ?_
 refine ol_nil ?_
 refine pq_then ?_
 refine cw_seq ?_
 refine cw_seq ?_
 refine cw_region ?_
 refine ol_load rfl (op_loadN agg_26 rfl (by rfl) (fun w hw k u hk => (hw.bcell (i := 1) rfl).trans hk)) hS ?_
 refine ol_load rfl (op_loadN agg_34 rfl (by rfl) (fun w hw k u hk => (hw.bcell (i := 0) rfl).trans hk)) hS ?_
 refine ol_step rfl (op_call_fr hS cf_41 rfl (just_first_c _ _ hS.hold hE _ _ atoms rs h1 h2 hP _ _ l h5 ⟨_, _, _, rfl⟩)) ?_
 clear hS
 rintro v10 w ⟨F10, G10, hR10, hF10, hf10, hl10, hS⟩
 obtain ⟨o10, c10, rfl, _, _⟩ := hR10.elimN (byL_len _ _)
 have hBy := hR10.mono EInt.mono hf10
 refine ol_pure rfl (op_len sl_28 rfl rfl) ?_
 refine ol_pure rfl (op_move rfl) ?_
 refine ol_nil ?_
 refine pq_then ?_
 refine cw_block ?_
 refine cw_loop (fun e w n => ∃ k o5 c5, e = [(3, .pointer (some ⟨b3, 0, none⟩)), (5, .slice o5 k c5), (10, .slice o10 atoms.length c10), (11, .int .i64 (atoms.length : Nat)), (12, .int .i64 (k : Nat))] ∧ k ≤ atoms.length ∧ n = atoms.length - k ∧ SS G w0 G10 [.row o5 k c5 3 1 ((knownI k l).map (Value.int .i64)), .blk b3 34 [.slice oP l.length cP, .slice oh nh ch], .blk b2 26 [.slice oA atoms.length cA, .slice oR rs.length cR]] w) _ _ (by exact ⟨0, none, 0, rfl, Nat.zero_le _, rfl, hS.nil 3 1⟩) ((Sub.cons rfl (Sub.cons rfl (Sub.cons rfl (Sub.cons rfl (Sub.cons rfl Sub.nil)))))) ?_
 clear hS
 rintro e w n ⟨k, o5, c5, rfl, hk, rfl, hS⟩
 refine cw_seq ?_
 refine cw_region ?_
 refine ol_pure rfl (op_lss rfl rfl) ?_
 refine ol_nil ?_
 refine pq_then ?_
 refine cw_seq ?_
 refine cw_cond rfl (fun h13 => ?_) (fun h13 => ?_)
 ·
  skip
  try simp only [decide_eq_true_eq, decide_eq_false_iff_not, Bool.not_eq_true', Bool.not_eq_false', Bool.not_eq_eq_eq_not, Bool.not_true, Bool.not_false] at h13
  have hlt : k < atoms.length := by omega
  have hbl : k < (byL atoms.length l).length := by rw [byL_len]; exact hlt
  obtain ⟨hoB, hcB, hbB⟩ := hBy.int hbl
  have hbg := byL_get hbl
  have hbr := byI_len l (k : Int)
  refine cw_skip ?_
  refine pq_then ?_
  refine cw_seq ?_
  refine cw_block ?_
  refine cw_seq ?_
  refine cw_region ?_
  refine ol_pure rfl (op_indexN sl_28 rfl rfl (by omega) hoB) ?_
  refine ol_load rfl (op_load1 one_3 rfl (fun w hw => hw.gcell hcB)) hS ?_
  refine ol_pure rfl (op_assign rfl) ?_
  refine ol_nil ?_
  refine pq_then ?_
  refine cw_block ?_
  refine cw_seq ?_
  refine cw_region ?_
  refine ol_pure rfl (op_move rfl) ?_
  refine ol_pure rfl (op_lss rfl rfl) ?_
  refine ol_pure rfl (op_assign rfl) ?_
  refine ol_nil ?_
  refine pq_then ?_
  refine cw_cond rfl (fun h19 => ?_) (fun h19 => ?_)
  ·
   skip
   try simp only [decide_eq_true_eq, decide_eq_false_iff_not, Bool.not_eq_true', Bool.not_eq_false', Bool.not_eq_eq_eq_not, Bool.not_true, Bool.not_false] at h19
   rw [hbg] at h19
   have hkn : knownI (k + 1) l = knownI k l ++ [1] := by rw [knownI_snoc, if_neg (by omega)]
   refine cw_region ?_
   refine ol_pure rfl (op_move rfl) ?_
   refine ol_step rfl (op_buildSlice (el := 3) (is := [0]) (xs := [.const (.int .i64 (1))]) (sz := 1) (cs := [.int .i64 (1)]) hS rfl rfl (fun w => by kernel_rfl) rfl (by decide)) ?_
   clear hS
   rintro _ w ⟨s23, rfl, hS⟩
   refine ol_step rfl (op_append (j := 1) hS sl_28 el_3 rfl rfl rfl rfl rfl rfl (by decide) (hS.news (j := 0) rfl) (by simp [Value.oneCell']) (by omega) (by unfold maxLen; omega)) ?_
   clear hS
   rintro _ w ⟨o5n, c_o5n, rfl, hS⟩; (try simp only [List.nil_append, List.cons_append, List.set] at hS); replace hS := SS.drop [] hS; (try simp only [List.nil_append, List.cons_append] at hS)
   refine ol_pure rfl (op_assign rfl) ?_
   refine ol_nil ?_
   refine pq_in_normal ?_
   refine pq_in_normal ?_
   refine pq_then ?_
   refine cw_region ?_
   refine ol_pure rfl (op_add rfl rfl (by omega) (by omega)) ?_
   refine ol_pure rfl (op_move rfl) ?_
   refine ol_nil ?_
   refine pq_loop _ _ (by exact ⟨k + 1, o5n, c_o5n, rfl, by omega, rfl, by rw [hkn, List.map_append]; exact hS⟩) ((Sub.cons rfl (Sub.cons rfl (Sub.cons rfl (Sub.cons rfl (Sub.cons rfl Sub.nil)))))) (by omega)
  ·
   skip
   try simp only [decide_eq_true_eq, decide_eq_false_iff_not, Bool.not_eq_true', Bool.not_eq_false', Bool.not_eq_eq_eq_not, Bool.not_true, Bool.not_false] at h19
   rw [hbg] at h19
   obtain ⟨i, hi⟩ := Int.eq_ofNat_of_zero_le (show 0 ≤ byI l (k : Int) by omega)
   have hil : i < l.length := by omega
   obtain ⟨hoP, _, _, ⟨vk, rfl, hvk, hrk⟩, hcells⟩ := h5.el hil
   have hkn : knownI (k + 1) l = knownI k l ++ [tellOf l[i]] := by rw [knownI_snoc, if_pos (by omega), hi, show ((i : Nat) : Int).toNat = i from rfl, List.getElem?_eq_getElem hil]
   rw [hbg, hi]
   refine cw_seq ?_
   refine cw_region ?_
   refine ol_pure rfl (op_fieldAddr fld_34_0 rfl) ?_
   refine ol_load rfl (op_load1 one_32 rfl (fun w hw => (hw.bcell (i := 1) rfl).trans rfl)) hS ?_
   refine ol_pure rfl (op_move rfl) ?_
   refine ol_pure rfl (op_indexN sl_32 rfl rfl (by omega) hoP) ?_
   refine ol_pure rfl (op_fieldAddr fld_37_0 rfl) ?_
   refine ol_load rfl (op_load1 one_3 rfl (fun w hw => hw.gcell0 (hcells 0 _ rfl))) hS ?_
   refine ol_pure rfl (op_geq rfl rfl) ?_
   refine ol_pure rfl (op_assign rfl) ?_
   refine ol_nil ?_
   refine pq_then ?_
   refine cw_cond rfl (fun h25 => ?_) (fun h25 => ?_)
   ·
    skip
    try simp only [decide_eq_true_eq, decide_eq_false_iff_not, Bool.not_eq_true', Bool.not_eq_false', Bool.not_eq_eq_eq_not, Bool.not_true, Bool.not_false] at h25
    refine cw_region ?_
    refine ol_pure rfl (op_move rfl) ?_
    refine ol_step rfl (op_buildSlice (el := 3) (is := [0]) (xs := [.const (.int .i64 (2))]) (sz := 1) (cs := [.int .i64 (2)]) hS rfl rfl (fun w => by kernel_rfl) rfl (by decide)) ?_
    clear hS
    rintro _ w ⟨s34, rfl, hS⟩
    refine ol_step rfl (op_append (j := 1) hS sl_28 el_3 rfl rfl rfl rfl rfl rfl (by decide) (hS.news (j := 0) rfl) (by simp [Value.oneCell']) (by omega) (by unfold maxLen; omega)) ?_
    clear hS
    rintro _ w ⟨o5n, c_o5n, rfl, hS⟩; (try simp only [List.nil_append, List.cons_append, List.set] at hS); replace hS := SS.drop [] hS; (try simp only [List.nil_append, List.cons_append] at hS)
    refine ol_pure rfl (op_assign rfl) ?_
    refine ol_nil ?_
    refine pq_in_normal ?_
    refine pq_in_normal ?_
    refine pq_then ?_
    refine cw_region ?_
    refine ol_pure rfl (op_add rfl rfl (by omega) (by omega)) ?_
    refine ol_pure rfl (op_move rfl) ?_
    refine ol_nil ?_
    refine pq_loop _ _ (by exact ⟨k + 1, o5n, c_o5n, rfl, by omega, rfl, by rw [hkn, List.map_append, tellOf, if_pos h25]; exact hS⟩) ((Sub.cons rfl (Sub.cons rfl (Sub.cons rfl (Sub.cons rfl (Sub.cons rfl Sub.nil)))))) (by omega)
   ·
    skip
    try simp only [decide_eq_true_eq, decide_eq_false_iff_not, Bool.not_eq_true', Bool.not_eq_false', Bool.not_eq_eq_eq_not, Bool.not_true, Bool.not_false] at h25
    refine cw_region ?_
    refine ol_pure rfl (op_move rfl) ?_
    refine ol_step rfl (op_buildSlice (el := 3) (is := [0]) (xs := [.const (.int .i64 (0))]) (sz := 1) (cs := [.int .i64 (0)]) hS rfl rfl (fun w => by kernel_rfl) rfl (by decide)) ?_
    clear hS
    rintro _ w ⟨s17, rfl, hS⟩
    refine ol_step rfl (op_append (j := 1) hS sl_28 el_3 rfl rfl rfl rfl rfl rfl (by decide) (hS.news (j := 0) rfl) (by simp [Value.oneCell']) (by omega) (by unfold maxLen; omega)) ?_
    clear hS
    rintro _ w ⟨o5n, c_o5n, rfl, hS⟩; (try simp only [List.nil_append, List.cons_append, List.set] at hS); replace hS := SS.drop [] hS; (try simp only [List.nil_append, List.cons_append] at hS)
    refine ol_pure rfl (op_assign rfl) ?_
    refine ol_nil ?_
    refine pq_in_normal ?_
    refine pq_in_normal ?_
    refine pq_then ?_
    refine cw_region ?_
    refine ol_pure rfl (op_add rfl rfl (by omega) (by omega)) ?_
    refine ol_pure rfl (op_move rfl) ?_
    refine ol_nil ?_
    refine pq_loop _ _ (by exact ⟨k + 1, o5n, c_o5n, rfl, by omega, rfl, by rw [hkn, List.map_append, tellOf, if_neg h25]; exact hS⟩) ((Sub.cons rfl (Sub.cons rfl (Sub.cons rfl (Sub.cons rfl (Sub.cons rfl Sub.nil)))))) (by omega)
 ·
  skip
  try simp only [decide_eq_true_eq, decide_eq_false_iff_not, Bool.not_eq_true', Bool.not_eq_false', Bool.not_eq_eq_eq_not, Bool.not_true, Bool.not_false] at h13
  refine cw_exit ?_
  refine pq_exit ?_
  refine pq_exit ?_
  refine pq_in_exit ?_
  refine pq_then ?_
  refine cw_seq ?_
  refine cw_region ?_
  refine ol_pure rfl (op_move rfl) ?_
  refine ol_pure rfl (op_assign rfl) ?_
  refine ol_nil ?_
  refine pq_then ?_
  refine cw_ret ?_
  refine ret1 rfl rfl ?_
  have hk0 : k = atoms.length := by omega
  subst hk0
  exact hS.rt_row [] (by decide) (Rows.ints (l := knownI atoms.length l) fun x hx => by have := known_range x hx; omega) EInt.mono (known_len _ _).symm
end Go.Proofs.Ytmkgechdfimfnaa.K
