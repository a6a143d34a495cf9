/-
  Roots that have the same terms in two heaps; some of a heap's places.
  No condition but the premises that each theorem names.
-/
import Derived.Test.YtnmkffkalnkbbaaHp6
namespace Go.Proofs.Ytnmkffkalnkbbaa.K
open Go Go.RowKit
set_option linter.unusedVariables false
set_option linter.unusedSimpArgs false

open Pl
theorem some_eq {α : Type} {o : Option α} {f : α → α} {o2 : Option α} (h : o2 = o.map f) : (o.isSome == o2.isSome) = true := by
  rw [h]
  cases o <;> rfl
theorem and31 (x : Int) (h0 : 0 ≤ x) (h1 : x < 4294967296) : bits .and .u32 x 2147483647 = x % 2147483648 := by
  show IntKind.u32.wrap ((BitVec.ofInt 32 x &&& BitVec.ofInt 32 2147483647).toNat : Int) = _
  have h2 : (BitVec.ofInt 32 2147483647).toNat = 2147483647 := by decide
  have h3 : (BitVec.ofInt 32 x).toNat &&& 2147483647 = (BitVec.ofInt 32 x).toNat % 2147483648 := Nat.and_two_pow_sub_one_eq_mod _ 31
  rw [BitVec.toNat_and, h2, h3, BitVec.toNat_ofInt]
  simp [IntKind.wrap, IntKind.signed, IntKind.bits]
  omega

set_option maxRecDepth 100000 in
set_option maxHeartbeats 1000000 in

theorem R09_Alike_c (G : GH) (w0 : World) (hG : Holds G w0) (hv hv2 : Value) (cs cs2 : List Cell) (tr tr2 : List Int) (room room2 : Int) (hh : EHeap G hv cs tr room) (hh2 : EHeap G hv2 cs2 tr2 room2) (hs : ShOk cs) (hr : Rk cs) (hs2 : ShOk cs2) (hr2 : Rk cs2) (hn : cs.length ≤ 1000000) (hn2 : cs2.length ≤ 1000000) (u u2 u3 : Value) (roots moved to : List Int) (h1 : RSl 1 EInt G u roots) (h2 : RSl 1 EInt G u2 moved) (h3 : RSl 1 EInt G u3 to) (hal : AlikeP cs roots cs2 moved to) :
   Calls Try.prog 24 #[hv, u, hv2, u2, u3] w0 (Sc w0 (.bool true)) := by
 have hh0 := hh
 have hh20 := hh2
 obtain ⟨oc, cc, ot, ct, rfl, hC, hT⟩ := hh
 obtain ⟨oc2, cc2, ot2, ct2, rfl, hC2, hT2⟩ := hh2
 obtain ⟨oR, cR, rfl, _, _⟩ := h1.elim
 obtain ⟨oM, cM, rfl, _, _⟩ := h2.elim
 obtain ⟨oT, cT, rfl, _, _⟩ := h3.elim
 have hle := h1.le
 have hll := hal.1
 have hcur := Le.refl G
 refine enter Try.func24 rfl (N := 59) rfl (Nat.le_of_ble_eq_true rfl) ?_
 have hS := SS.init hG
 refine cw_seq (cw_region ?_)
 refine ol_step rfl (op_box hS rfl rfl) ?_
 clear hS
 rintro _ w ⟨b5, rfl, hS⟩
 refine ol_step rfl (op_box hS rfl rfl) ?_
 clear hS
 rintro _ w ⟨b7, rfl, hS⟩
 refine ol_pure rfl (op_assign rfl) (ol_nil (pq_then (cw_seq (cw_seq (cw_region (ol_pure rfl (op_move rfl) (ol_pure rfl (op_len sl_26 rfl rfl) ?_)))))))
 refine ol_pure rfl (op_move rfl) (ol_pure rfl (op_len sl_26 rfl rfl) (ol_pure rfl (op_neq rfl rfl) (ol_nil (pq_then ?_))))
 refine cw_cond rfl (fun h20 => ?_) (fun h20 => ?_)
 ·
  try simp only [dqT, dqF, dq1, dq2, dq3, dq4, dq5] at h20
  refine cw_seq (cw_region (ol_pure rfl (op_assign rfl) (ol_nil (pq_then (cw_ret (pq_ret (ret1 rfl rfl ?_)))))))
  exfalso
  omega
 ·
  try simp only [dqT, dqF, dq1, dq2, dq3, dq4, dq5] at h20
  refine cw_skip (pq_then (cw_seq (cw_seq (cw_region (ol_pure rfl (op_assign rfl) (ol_nil (pq_then ?_)))))))
  refine cw_block ?_
  refine cw_loop (fun e w n => ∃ (Gc : GH) (k : Nat), e = [(1, .slice oR roots.length cR), (3, .slice oM moved.length cM), (4, .slice oT to.length cT), (5, .pointer (some ⟨b5, 0, none⟩)), (7, .pointer (some ⟨b7, 0, none⟩)), (11, .int .i64 (k : Nat))] ∧ Le G Gc ∧ k ≤ roots.length ∧ n = roots.length - k ∧ SS G w0 Gc [.blk b7 28 [.slice oc2 cs2.length cc2, .slice ot2 tr2.length ct2, .int .i64 room2], .blk b5 28 [.slice oc cs.length cc, .slice ot tr.length ct, .int .i64 room]] w) _ _ (by exact ⟨G, 0, rfl, hcur, Nat.zero_le _, rfl, hS⟩) ((Sub.cons rfl (Sub.cons rfl (Sub.cons rfl (Sub.cons rfl (Sub.cons rfl (Sub.cons rfl Sub.nil))))))) ?_
  clear hS
  rintro e w n ⟨Gc, k, rfl, hcur, hk, rfl, hS⟩
  refine cw_seq (cw_seq (cw_region (ol_pure rfl (op_move rfl) (ol_pure rfl (op_move rfl) (ol_pure rfl (op_len sl_26 rfl rfl) (ol_pure rfl (op_lss rfl rfl) (ol_nil ?_)))))))
  refine pq_then ?_
  refine cw_cond rfl (fun h24 => ?_) (fun h24 => ?_)
  ·
   try simp only [dqT, dqF, dq1, dq2, dq3, dq4, dq5] at h24
   have hk1 : k < roots.length := by omega
   have hk2 : k < moved.length := by omega
   obtain ⟨hoR, hcR, hbR⟩ := (h1.mono EInt.mono hcur).int hk1
   obtain ⟨hoM, hcM, hbM⟩ := (h2.mono EInt.mono hcur).int hk2
   have hx := hal.2 k hk1 hk2
   refine cw_skip (pq_then (cw_seq (cw_block (cw_seq ?_))))
   refine al_start' hS (hS.take 2) (by kernel_rfl) rfl (fun w hS hT => ?_)
   refine al_load (i := 0) rfl (by kernel_rfl) (by kernel_rfl) (by kernel_rfl) rfl (fun _ _ _ h => h) (by exact op_loadN agg_28 rfl (by rfl) (fun w hw k u hk => (hw.bcell (i := 1) rfl).trans hk)) rfl hT (al_take (i := 1) rfl (by kernel_rfl) (by kernel_rfl) (by kernel_rfl) rfl (fun _ _ _ h => h) (op_move rfl) rfl (al_take (i := 2) rfl (by kernel_rfl) (by kernel_rfl) (by kernel_rfl) rfl (fun _ _ _ h => h) (op_move rfl) rfl (al_take (i := 3) rfl (by kernel_rfl) (by kernel_rfl) (by kernel_rfl) rfl (fun _ _ _ h => h) (op_indexN sl_26 rfl rfl (by omega) hoR) rfl (al_load (i := 4) rfl (by kernel_rfl) (by kernel_rfl) (by kernel_rfl) rfl (fun _ _ _ h => h) (by exact op_load1 one_3 rfl (fun w hw => hw.gcell hcR)) rfl hT ?_))))
   refine al_step (i := 5) rfl (by kernel_rfl) rfl (op_call_fr hS cf_50 rfl (R08_Get_c _ _ hS.hold _ cs tr room (hh0.mono hcur) hs hr hn roots[k])) ?_
   clear hS
   rintro v33 w ⟨F33, G33, hR33, hF33, hf33, hl33, hS⟩
   obtain ⟨u33, rfl, hX⟩ := hR33
   obtain ⟨oX, cX, rfl, _, _⟩ := hX.elim
   replace hX := hX.mono ECell.mono hf33
   replace hcM := hl33.cell hcM
   have hcur2 := hcur.trans hl33
   refine ⟨no_need (by kernel_rfl), ?_⟩
   refine al_take (i := 6) rfl (by kernel_rfl) (by kernel_rfl) (by kernel_rfl) rfl (fun _ _ _ h => h) (op_move rfl) rfl (al_take (i := 7) rfl (by kernel_rfl) (by kernel_rfl) (by kernel_rfl) rfl (fun _ _ _ h => h) (op_extract (vs := [.slice oX ((getT cs roots[k]).getD []).length cX, .bool (getT cs roots[k]).isSome]) rfl rfl) rfl (al_take (i := 8) rfl (by kernel_rfl) (by kernel_rfl) (by kernel_rfl) rfl (fun _ _ _ h => h) (op_extract (vs := [.slice oX ((getT cs roots[k]).getD []).length cX, .bool (getT cs roots[k]).isSome]) rfl rfl) rfl (al_take (i := 9) rfl (by kernel_rfl) (by kernel_rfl) (by kernel_rfl) rfl (fun _ _ _ h => h) (op_assign rfl) rfl (al_take (i := 10) rfl (by kernel_rfl) (by kernel_rfl) (by kernel_rfl) rfl (fun _ _ _ h => h) (op_assign rfl) rfl (al_done (by kernel_rfl) (pq_then (cw_seq ?_)))))))
   refine al_start' hS (hS.take 1) (by kernel_rfl) rfl (fun w hS hT => ?_)
   refine al_load (i := 0) rfl (by kernel_rfl) (by kernel_rfl) (by kernel_rfl) rfl (fun _ _ _ h => h) (by exact op_loadN agg_28 rfl (by rfl) (fun w hw k u hk => (hw.bcell (i := 0) rfl).trans hk)) rfl hT (al_take (i := 1) rfl (by kernel_rfl) (by kernel_rfl) (by kernel_rfl) rfl (fun _ _ _ h => h) (op_move rfl) rfl (al_take (i := 2) rfl (by kernel_rfl) (by kernel_rfl) (by kernel_rfl) rfl (fun _ _ _ h => h) (op_move rfl) rfl (al_take (i := 3) rfl (by kernel_rfl) (by kernel_rfl) (by kernel_rfl) rfl (fun _ _ _ h => h) (op_indexN sl_26 rfl rfl (by omega) hoM) rfl (al_load (i := 4) rfl (by kernel_rfl) (by kernel_rfl) (by kernel_rfl) rfl (fun _ _ _ h => h) (by exact op_load1 one_3 rfl (fun w hw => hw.gcell hcM)) rfl hT ?_))))
   refine al_step (i := 5) rfl (by kernel_rfl) rfl (op_call_fr hS cf_50 rfl (R08_Get_c _ _ hS.hold _ cs2 tr2 room2 (hh20.mono hcur2) hs2 hr2 hn2 moved[k])) ?_
   clear hS
   rintro v42 w ⟨F42, G42, hR42, hF42, hf42, hl42, hS⟩
   obtain ⟨u42, rfl, hY⟩ := hR42
   obtain ⟨oY, cY, rfl, _, _⟩ := hY.elim
   replace hY := hY.mono ECell.mono hf42
   replace hX := hX.mono ECell.mono hl42
   have hcur3 := hcur2.trans hl42
   refine ⟨no_need (by kernel_rfl), ?_⟩
   refine al_take (i := 6) rfl (by kernel_rfl) (by kernel_rfl) (by kernel_rfl) rfl (fun _ _ _ h => h) (op_move rfl) rfl (al_take (i := 7) rfl (by kernel_rfl) (by kernel_rfl) (by kernel_rfl) rfl (fun _ _ _ h => h) (op_extract (vs := [.slice oY ((getT cs2 moved[k]).getD []).length cY, .bool (getT cs2 moved[k]).isSome]) rfl rfl) rfl (al_take (i := 8) rfl (by kernel_rfl) (by kernel_rfl) (by kernel_rfl) rfl (fun _ _ _ h => h) (op_extract (vs := [.slice oY ((getT cs2 moved[k]).getD []).length cY, .bool (getT cs2 moved[k]).isSome]) rfl rfl) rfl (al_take (i := 9) rfl (by kernel_rfl) (by kernel_rfl) (by kernel_rfl) rfl (fun _ _ _ h => h) (op_assign rfl) rfl (al_take (i := 10) rfl (by kernel_rfl) (by kernel_rfl) (by kernel_rfl) rfl (fun _ _ _ h => h) (op_assign rfl) rfl (al_done (by kernel_rfl) (pq_then (cw_seq ?_)))))))
   have hss := some_eq hx
   have hc4 := Le.refl G42
   refine cw_region (ol_pure rfl (op_move rfl) (ol_pure rfl (op_move rfl) (ol_pure rfl (op_neqB Try.underlying4 rfl rfl) (ol_pure rfl (op_move rfl) ?_))))
   refine ol_split (fun h48 => ?_) (fun h48 => ?_)
   ·
    try simp only [dqT, dqF, dq1, dq2, dq3, dq4, dq5] at h48
    refine ol_guard_no rfl rfl rfl rfl (ol_guard_no rfl rfl rfl rfl (ol_guard_undef rfl rfl rfl (ol_guard_undef rfl rfl rfl (ol_guard_undef rfl rfl rfl (ol_guard_undef rfl rfl rfl (ol_guard_undef rfl rfl rfl (ol_guard_undef rfl rfl rfl ?_)))))))
    refine ol_guard_no rfl rfl rfl rfl (ol_pure rfl (op_pick_t rfl rfl) (ol_nil (pq_then (cw_cond_t rfl (cw_seq (cw_region (ol_pure rfl (op_assign rfl) ?_)))))))
    refine ol_nil (pq_then (cw_ret (pq_in_ret (pq_ret (pq_ret (pq_in_ret (pq_ret ?_)))))))
    refine ret1 rfl rfl ?_
    exfalso
    rw [hss] at h48
    cases h48
   ·
    try simp only [dqT, dqF, dq1, dq2, dq3, dq4, dq5] at h48
    refine ol_guard_pure rfl rfl rfl (op_move rfl) (ol_guard_pure rfl rfl rfl (op_move rfl) ?_)
    refine ol_split (fun h50 => ?_) (fun h50 => ?_)
    ·
     try simp only [dqT, dqF, dq1, dq2, dq3, dq4, dq5] at h50
     obtain ⟨tt, htt⟩ := Option.isSome_iff_exists.1 h50
     have hgx : (getT cs roots[k]).getD [] = tt := by rw [htt]; rfl
     have hgy : (getT cs2 moved[k]).getD [] = termsI to tt := by rw [hx, htt]; rfl
     have hXt : RSl 3 ECell G42 (.slice oX ((getT cs roots[k]).getD []).length cX) tt := Eq.subst (motive := fun z => RSl 3 ECell G42 (.slice oX ((getT cs roots[k]).getD []).length cX) z) hgx hX
     have hYt : RSl 3 ECell G42 (.slice oY ((getT cs2 moved[k]).getD []).length cY) (termsI to tt) := Eq.subst (motive := fun z => RSl 3 ECell G42 (.slice oY ((getT cs2 moved[k]).getD []).length cY) z) hgy hY
     have htl : tt.length ≤ 201 := by
       have h9 := getI_len cs roots[k]
       unfold getT at htt
       split at htt
       · split at htt
         · have : getI cs roots[k] = tt := by simpa using htt
           rw [← this]; exact h9
         · cases htt
       · cases htt
     refine ol_guard_pure rfl rfl rfl (op_move rfl) (ol_guard_pure rfl rfl rfl (op_move rfl) ?_)
     refine ol_guard_step rfl rfl rfl (op_call_fr hS cf_52 rfl (R09_Terms_c _ _ hS.hold _ _ to tt (h3.mono EInt.mono hcur3) hXt (by omega) (fun c hc hk => (cellB_var (getT_cells htt c hc) hk).1))) ?_
     clear hS
     rintro v53 w ⟨F53, G53, hR53, hF53, hf53, hl53, hS⟩
     obtain ⟨oZ, cZ, rfl, _, _⟩ := hR53.elim
     replace hc4 := hc4.trans hl53
     refine ol_guard_pure rfl rfl rfl (op_move rfl) ?_
     refine ol_guard_step rfl rfl rfl (op_call_sc hS cf_51 rfl (calls_t (sameT_refl (termsI to tt)) (R01_Same_c _ _ hS.hold _ _ (termsI to tt) (termsI to tt) (hR53.mono ECell.mono hf53) (hYt.mono ECell.mono hl53)))) ?_
     clear hS
     rintro _ w ⟨rfl, hS⟩
     refine ol_guard_pure rfl rfl rfl (op_not rfl) (ol_guard_pure rfl rfl rfl (op_pick_t rfl rfl) (ol_pure rfl (op_pick_f rfl rfl) (ol_nil (pq_then (cw_cond_f rfl (cw_skip (pq_in_normal ?_)))))))
     refine pq_then (cw_region (ol_pure rfl (op_move rfl) (ol_pure rfl (op_add rfl rfl (by omega) (by omega)) (ol_pure rfl (op_assign rfl) (ol_nil ?_)))))
     refine pq_loop _ _ (by exact ⟨_, k + 1, rfl, hcur3.trans hc4, by omega, rfl, hS⟩) ((Sub.cons rfl (Sub.cons rfl (Sub.cons rfl (Sub.cons rfl (Sub.cons rfl (Sub.cons rfl Sub.nil))))))) (by omega)
    ·
     try simp only [dqT, dqF, dq1, dq2, dq3, dq4, dq5] at h50
     refine ol_guard_no rfl rfl rfl rfl (ol_guard_no rfl rfl rfl rfl (ol_guard_no rfl rfl rfl rfl (ol_guard_no rfl rfl rfl rfl (ol_guard_no rfl rfl rfl rfl (ol_guard_no rfl rfl rfl rfl (ol_guard_pure rfl rfl rfl (op_pick_f rfl rfl) (ol_pure rfl (op_pick_f rfl rfl) ?_)))))))
     refine ol_nil (pq_then (cw_cond_f rfl (cw_skip (pq_in_normal (pq_then (cw_region (ol_pure rfl (op_move rfl) ?_)))))))
     refine ol_pure rfl (op_add rfl rfl (by omega) (by omega)) (ol_pure rfl (op_assign rfl) (ol_nil ?_))
     refine pq_loop _ _ (by exact ⟨_, k + 1, rfl, hcur3.trans hc4, by omega, rfl, hS⟩) ((Sub.cons rfl (Sub.cons rfl (Sub.cons rfl (Sub.cons rfl (Sub.cons rfl (Sub.cons rfl Sub.nil))))))) (by omega)
  ·
   try simp only [dqT, dqF, dq1, dq2, dq3, dq4, dq5] at h24
   refine cw_exit (pq_exit (pq_exit (pq_in_exit (pq_then (cw_seq (cw_region (ol_pure rfl (op_assign rfl) ?_)))))))
   refine ol_nil (pq_then (cw_ret (ret1 rfl rfl ?_)))
   exact hS.sc_b rfl
set_option maxRecDepth 100000 in
set_option maxHeartbeats 1000000 in

theorem R09_Roots_c (G : GH) (w0 : World) (hG : Holds G w0) (oc ot : Option Addr) (nc cc nt ct : Nat) (room : Int) (va : Value) (ats : List Int) (h1 : RSl 1 EInt G va ats) (oM : Option Addr) (nM cM : Nat) (hn : ats.length ≤ 20) (mask : Int) (hm0 : 0 ≤ mask) :
   Calls Try.prog 13 #[.agg #[.slice oc nc cc, .slice ot nt ct, .int .i64 room, va, .slice oM nM cM], .int .u32 mask] w0 (Rt noG w0 (fun G v => ∃ l, RSl 1 EInt G v l ∧ l.length ≤ 21 ∧ (∀ x ∈ l, x ∈ ats ∨ x = -1) ∧ (mask < 2147483648 → ∀ x ∈ l, x ∈ ats))) := by
 obtain ⟨oA, cA, rfl, _, _⟩ := h1.elim
 have hbd := h1.bnd
 refine enter Try.func13 rfl (N := 35) rfl (Nat.le_of_ble_eq_true rfl) ?_
 have hS := SS.init hG
 refine cw_seq (cw_region ?_)
 refine ol_step rfl (op_box hS rfl rfl) ?_
 clear hS
 rintro _ w ⟨b2, rfl, hS⟩
 refine ol_pure rfl (op_assign rfl) (ol_nil (pq_then (cw_seq (cw_region ?_))))
 refine ol_step rfl (op_buildSlice (el := 3) (is := []) (xs := []) (sz := 1) (cs := []) hS rfl rfl (fun w => by kernel_rfl) rfl (by decide)) ?_
 clear hS
 rintro _ w ⟨o5, rfl, hS⟩
 refine ol_pure rfl (op_assign rfl) (ol_nil (pq_then (cw_seq (cw_seq (cw_region (ol_pure rfl (op_assign rfl) (ol_nil ?_)))))))
 refine pq_then (cw_block ?_)
 refine cw_loop (fun e w n => ∃ (k : Nat) (l : List Int) (oO : Option Addr) (lO cO : Nat), e = [(1, .int .u32 mask), (2, .pointer (some ⟨b2, 0, none⟩)), (5, .slice oO lO cO), (6, .int .i64 (k : Nat))] ∧ lO = l.length ∧ l.length ≤ k ∧ (∀ x ∈ l, x ∈ ats) ∧ k ≤ ats.length ∧ n = ats.length - k ∧ SS G w0 G [.row oO lO cO 3 1 (l.map (Value.int .i64)), .blk b2 31 [.slice oc nc cc, .slice ot nt ct, .int .i64 room, .slice oA ats.length cA, .slice oM nM cM]] w) _ _ (by exact ⟨0, [], o5, 0, _, rfl, rfl, Nat.le_refl _, by simp, Nat.zero_le _, rfl, hS⟩) ((Sub.cons rfl (Sub.cons rfl (Sub.cons rfl (Sub.cons rfl Sub.nil))))) ?_
 clear hS
 rintro e w n ⟨k, l, oO, lO, cO, rfl, hlO, hlk, hl, hk, rfl, hS⟩
 refine cw_seq (cw_seq (cw_region (ol_pure rfl (op_move rfl) (ol_pure rfl (op_fieldAddr fld_31_1 rfl) (ol_load rfl (op_load1 one_26 rfl (fun w hw => (hw.bcell (i := 1) rfl).trans rfl)) hS (ol_pure rfl (op_len sl_26 rfl rfl) (ol_pure rfl (op_lss rfl rfl) ?_)))))))
 refine ol_nil (pq_then ?_)
 refine cw_cond rfl (fun h12 => ?_) (fun h12 => ?_)
 ·
  try simp only [dqT, dqF, dq1, dq2, dq3, dq4, dq5] at h12
  have hlt : k < ats.length := by omega
  obtain ⟨hoa, hc, hb⟩ := h1.int hlt
  refine cw_skip (pq_then (cw_seq (cw_block (cw_seq (cw_region (ol_pure rfl (op_move rfl) (ol_pure rfl (op_move rfl) ?_)))))))
  refine ol_pure rfl (op_shrI (n := (k : Nat)) rfl rfl (by omega) (by simp [IntKind.bits]; omega)) (ol_pure rfl (op_and rfl rfl) (ol_pure rfl (op_eql rfl rfl) (ol_nil (pq_then ?_))))
  refine cw_cond rfl (fun h19 => ?_) (fun h19 => ?_)
  ·
   try simp only [dqT, dqF, dq1, dq2, dq3, dq4, dq5] at h19
   refine cw_region (ol_pure rfl (op_move rfl) (ol_pure rfl (op_fieldAddr fld_31_1 rfl) (ol_load rfl (op_load1 one_26 rfl (fun w hw => (hw.bcell (i := 1) rfl).trans rfl)) hS (ol_pure rfl (op_move rfl) (ol_pure rfl (op_indexN sl_26 rfl rfl (by omega) hoa) (ol_load rfl (op_load1 one_3 rfl (fun w hw => hw.gcell hc)) hS ?_))))))
   refine ol_step rfl (op_buildSlice (el := 3) (is := [0]) (xs := [.tmp 25]) (sz := 1) (cs := [.int .i64 ats[k]]) hS rfl rfl (fun w => by kernel_rfl) rfl (by decide)) ?_
   clear hS
   rintro _ w ⟨s26, rfl, hS⟩
   refine ol_step rfl (op_append (j := 1) hS sl_26 el_3 rfl rfl rfl rfl rfl rfl (by decide) (hS.news (j := 0) rfl) (by simp [Value.oneCell']) (by omega) (by unfold maxLen; omega)) ?_
   clear hS
   rintro _ w ⟨oq, c_oq, rfl, hS⟩; (try simp only [List.nil_append, List.cons_append, List.set] at hS); replace hS := SS.drop [] hS; (try simp only [List.nil_append, List.cons_append] at hS)
   refine ol_pure rfl (op_assign rfl) (ol_nil (pq_in_normal (pq_then (cw_region (ol_pure rfl (op_move rfl) (ol_pure rfl (op_add rfl rfl (by omega) (by omega)) (ol_pure rfl (op_assign rfl) ?_)))))))
   refine ol_nil ?_
   refine pq_loop _ _ (by exact ⟨k + 1, l ++ [ats[k]], oq, lO + 1, c_oq, rfl, by simp [hlO], by simp; omega, fun x hx => (List.mem_append.1 hx).elim (hl x) (fun h => by rw [show x = ats[k] from by simpa using h]; exact List.getElem_mem hlt), by omega, rfl, by simpa using hS⟩) ((Sub.cons rfl (Sub.cons rfl (Sub.cons rfl (Sub.cons rfl Sub.nil))))) (by omega)
  ·
   try simp only [dqT, dqF, dq1, dq2, dq3, dq4, dq5] at h19
   refine cw_skip (pq_in_normal (pq_then (cw_region (ol_pure rfl (op_move rfl) (ol_pure rfl (op_add rfl rfl (by omega) (by omega)) (ol_pure rfl (op_assign rfl) (ol_nil ?_)))))))
   refine pq_loop _ _ (by exact ⟨k + 1, l, oO, lO, cO, rfl, hlO, by omega, hl, by omega, rfl, hS⟩) ((Sub.cons rfl (Sub.cons rfl (Sub.cons rfl (Sub.cons rfl Sub.nil))))) (by omega)
 ·
  try simp only [dqT, dqF, dq1, dq2, dq3, dq4, dq5] at h12
  refine cw_exit (pq_exit (pq_exit (pq_in_exit (pq_then (cw_seq (cw_seq (cw_region ?_)))))))
  refine ol_pure rfl (op_move rfl) (ol_pure rfl (op_shrI (n := 31) rfl rfl (by decide) (by decide)) (ol_pure rfl (op_eql rfl rfl) (ol_nil (pq_then ?_))))
  refine cw_cond rfl (fun h30 => ?_) (fun h30 => ?_)
  ·
   try simp only [dqT, dqF, dq1, dq2, dq3, dq4, dq5] at h30
   refine cw_region (ol_pure rfl (op_move rfl) ?_)
   refine ol_step rfl (op_buildSlice (el := 3) (is := [0]) (xs := [.const (.int .i64 (-1))]) (sz := 1) (cs := [.int .i64 (-1)]) hS rfl rfl (fun w => by kernel_rfl) rfl (by decide)) ?_
   clear hS
   rintro _ w ⟨s32, rfl, hS⟩
   refine ol_step rfl (op_append (j := 1) hS sl_26 el_3 rfl rfl rfl rfl rfl rfl (by decide) (hS.news (j := 0) rfl) (by simp [Value.oneCell']) (by omega) (by unfold maxLen; omega)) ?_
   clear hS
   rintro _ w ⟨oq, c_oq, rfl, hS⟩; (try simp only [List.nil_append, List.cons_append, List.set] at hS); replace hS := SS.drop [] hS; (try simp only [List.nil_append, List.cons_append] at hS)
   refine ol_pure rfl (op_assign rfl) (ol_nil (pq_then (cw_seq (cw_region (ol_pure rfl (op_move rfl) (ol_pure rfl (op_assign rfl) (ol_nil ?_)))))))
   refine pq_then (cw_ret (ret1 rfl rfl ?_))
   obtain ⟨F, G', hR, hF, hl1, hl2, hS2⟩ := SS.give_fr (l ++ [-1]) [] EInt.mono hS (by decide) (by
     have : l.map (Value.int .i64) ++ [Value.int .i64 (-1)] = (l ++ [-1]).map (Value.int .i64) := by simp
     rw [this]
     refine Rows.ints fun x hx => ?_
     rcases List.mem_append.1 hx with hx | hx
     · exact hbd x (hl x hx)
     · have : x = -1 := by simpa using hx
       omega) (by simp [hlO])
   refine hS2.rt_fr hl1 hF ⟨_, hR, by simp; omega, fun x hx => ?_, fun hm => ?_⟩
   · rcases List.mem_append.1 hx with hx | hx
     · exact .inl (hl x hx)
     · exact .inr (by simpa using hx)
   · exfalso
     have h9 : mask / 2 ^ (31 : Int).toNat = 0 := by
       rw [show (2 : Int) ^ (31 : Int).toNat = 2147483648 from by decide]
       exact Int.ediv_eq_zero_of_lt hm0 hm
     rw [h9] at h30
     exact absurd h30 (by decide)
  ·
   try simp only [dqT, dqF, dq1, dq2, dq3, dq4, dq5] at h30
   refine cw_skip (pq_then (cw_seq (cw_region (ol_pure rfl (op_move rfl) (ol_pure rfl (op_assign rfl) (ol_nil (pq_then ?_)))))))
   refine cw_ret (ret1 rfl rfl ?_)
   obtain ⟨F, G', hR, hF, hl1, hl2, hS2⟩ := SS.give_fr l [] EInt.mono hS (by decide) (Rows.ints fun x hx => hbd x (hl x hx)) hlO
   exact hS2.rt_fr hl1 hF ⟨_, hR, by omega, fun x hx => .inl (hl x hx), fun _ => hl⟩
set_option maxRecDepth 100000 in
set_option maxHeartbeats 1000000 in

theorem R09_Roots_own_c {G0 G : GH} {w0 w : World} {M : List Ent} (hS : SS G0 w0 G M w) (oc ot : Option Addr) (nc cc nt ct : Nat) (room : Int) (va : Value) (ats : List Int) (h1 : RSl 1 EInt G va ats) (oM : Option Addr) (nM cM : Nat) (hn : ats.length ≤ 20) (mask : Int) (hm0 : 0 ≤ mask) :
   Calls Try.prog 13 #[.agg #[.slice oc nc cc, .slice ot nt ct, .int .i64 room, va, .slice oM nM cM], .int .u32 mask] w (fun en w' => ∃ v, en = .returned v ∧ ∃ l oX cX, v = .slice oX (List.length l) cX ∧ l.length ≤ 21 ∧ (∀ x ∈ l, x ∈ ats ∨ x = -1) ∧ SS G0 w0 G (.row oX l.length cX 3 1 (l.map (Value.int .i64)) :: M) w') := by
 obtain ⟨oA, cA, rfl, _, _⟩ := h1.elim
 have hbd := h1.bnd
 refine enter Try.func13 rfl (N := 35) rfl (Nat.le_of_ble_eq_true rfl) ?_
 refine cw_seq (cw_region ?_)
 refine ol_step rfl (op_box hS rfl rfl) ?_
 clear hS
 rintro _ w ⟨b2, rfl, hS⟩
 refine ol_pure rfl (op_assign rfl) (ol_nil (pq_then (cw_seq (cw_region ?_))))
 refine ol_step rfl (op_buildSlice (el := 3) (is := []) (xs := []) (sz := 1) (cs := []) hS rfl rfl (fun w => by kernel_rfl) rfl (by decide)) ?_
 clear hS
 rintro _ w ⟨o5, rfl, hS⟩
 refine ol_pure rfl (op_assign rfl) (ol_nil (pq_then (cw_seq (cw_seq (cw_region (ol_pure rfl (op_assign rfl) (ol_nil ?_)))))))
 refine pq_then (cw_block ?_)
 refine cw_loop (fun e w n => ∃ (k : Nat) (l : List Int) (oO : Option Addr) (lO cO : Nat), e = [(1, .int .u32 mask), (2, .pointer (some ⟨b2, 0, none⟩)), (5, .slice oO lO cO), (6, .int .i64 (k : Nat))] ∧ lO = l.length ∧ l.length ≤ k ∧ (∀ x ∈ l, x ∈ ats) ∧ k ≤ ats.length ∧ n = ats.length - k ∧ SS G0 w0 G (.row oO lO cO 3 1 (l.map (Value.int .i64)) :: .blk b2 31 [.slice oc nc cc, .slice ot nt ct, .int .i64 room, .slice oA ats.length cA, .slice oM nM cM] :: M) w) _ _ (by exact ⟨0, [], o5, 0, _, rfl, rfl, Nat.le_refl _, by simp, Nat.zero_le _, rfl, hS⟩) ((Sub.cons rfl (Sub.cons rfl (Sub.cons rfl (Sub.cons rfl Sub.nil))))) ?_
 clear hS
 rintro e w n ⟨k, l, oO, lO, cO, rfl, hlO, hlk, hl, hk, rfl, hS⟩
 refine cw_seq (cw_seq (cw_region (ol_pure rfl (op_move rfl) (ol_pure rfl (op_fieldAddr fld_31_1 rfl) (ol_load rfl (op_load1 one_26 rfl (fun w hw => (hw.bcell (i := 1) rfl).trans rfl)) hS (ol_pure rfl (op_len sl_26 rfl rfl) (ol_pure rfl (op_lss rfl rfl) ?_)))))))
 refine ol_nil (pq_then ?_)
 refine cw_cond rfl (fun h12 => ?_) (fun h12 => ?_)
 ·
  try simp only [dqT, dqF, dq1, dq2, dq3, dq4, dq5] at h12
  have hlt : k < ats.length := by omega
  obtain ⟨hoa, hc, hb⟩ := h1.int hlt
  refine cw_skip (pq_then (cw_seq (cw_block (cw_seq (cw_region (ol_pure rfl (op_move rfl) (ol_pure rfl (op_move rfl) ?_)))))))
  refine ol_pure rfl (op_shrI (n := (k : Nat)) rfl rfl (by omega) (by simp [IntKind.bits]; omega)) (ol_pure rfl (op_and rfl rfl) (ol_pure rfl (op_eql rfl rfl) (ol_nil (pq_then ?_))))
  refine cw_cond rfl (fun h19 => ?_) (fun h19 => ?_)
  ·
   try simp only [dqT, dqF, dq1, dq2, dq3, dq4, dq5] at h19
   refine cw_region (ol_pure rfl (op_move rfl) (ol_pure rfl (op_fieldAddr fld_31_1 rfl) (ol_load rfl (op_load1 one_26 rfl (fun w hw => (hw.bcell (i := 1) rfl).trans rfl)) hS (ol_pure rfl (op_move rfl) (ol_pure rfl (op_indexN sl_26 rfl rfl (by omega) hoa) (ol_load rfl (op_load1 one_3 rfl (fun w hw => hw.gcell hc)) hS ?_))))))
   refine ol_step rfl (op_buildSlice (el := 3) (is := [0]) (xs := [.tmp 25]) (sz := 1) (cs := [.int .i64 ats[k]]) hS rfl rfl (fun w => by kernel_rfl) rfl (by decide)) ?_
   clear hS
   rintro _ w ⟨s26, rfl, hS⟩
   refine ol_step rfl (op_append (j := 1) hS sl_26 el_3 rfl rfl rfl rfl rfl rfl (by decide) (hS.news (j := 0) rfl) (by simp [Value.oneCell']) (by omega) (by unfold maxLen; omega)) ?_
   clear hS
   rintro _ w ⟨oq, c_oq, rfl, hS⟩; (try simp only [List.nil_append, List.cons_append, List.set] at hS); replace hS := SS.drop [] hS; (try simp only [List.nil_append, List.cons_append] at hS)
   refine ol_pure rfl (op_assign rfl) (ol_nil (pq_in_normal (pq_then (cw_region (ol_pure rfl (op_move rfl) (ol_pure rfl (op_add rfl rfl (by omega) (by omega)) (ol_pure rfl (op_assign rfl) ?_)))))))
   refine ol_nil ?_
   refine pq_loop _ _ (by exact ⟨k + 1, l ++ [ats[k]], oq, lO + 1, c_oq, rfl, by simp [hlO], by simp; omega, fun x hx => (List.mem_append.1 hx).elim (hl x) (fun h => by rw [show x = ats[k] from by simpa using h]; exact List.getElem_mem hlt), by omega, rfl, by simpa using hS⟩) ((Sub.cons rfl (Sub.cons rfl (Sub.cons rfl (Sub.cons rfl Sub.nil))))) (by omega)
  ·
   try simp only [dqT, dqF, dq1, dq2, dq3, dq4, dq5] at h19
   refine cw_skip (pq_in_normal (pq_then (cw_region (ol_pure rfl (op_move rfl) (ol_pure rfl (op_add rfl rfl (by omega) (by omega)) (ol_pure rfl (op_assign rfl) (ol_nil ?_)))))))
   refine pq_loop _ _ (by exact ⟨k + 1, l, oO, lO, cO, rfl, hlO, by omega, hl, by omega, rfl, hS⟩) ((Sub.cons rfl (Sub.cons rfl (Sub.cons rfl (Sub.cons rfl Sub.nil))))) (by omega)
 ·
  try simp only [dqT, dqF, dq1, dq2, dq3, dq4, dq5] at h12
  refine cw_exit (pq_exit (pq_exit (pq_in_exit (pq_then (cw_seq (cw_seq (cw_region ?_)))))))
  refine ol_pure rfl (op_move rfl) (ol_pure rfl (op_shrI (n := 31) rfl rfl (by decide) (by decide)) (ol_pure rfl (op_eql rfl rfl) (ol_nil (pq_then ?_))))
  refine cw_cond rfl (fun h30 => ?_) (fun h30 => ?_)
  ·
   try simp only [dqT, dqF, dq1, dq2, dq3, dq4, dq5] at h30
   refine cw_region (ol_pure rfl (op_move rfl) ?_)
   refine ol_step rfl (op_buildSlice (el := 3) (is := [0]) (xs := [.const (.int .i64 (-1))]) (sz := 1) (cs := [.int .i64 (-1)]) hS rfl rfl (fun w => by kernel_rfl) rfl (by decide)) ?_
   clear hS
   rintro _ w ⟨s32, rfl, hS⟩
   refine ol_step rfl (op_append (j := 1) hS sl_26 el_3 rfl rfl rfl rfl rfl rfl (by decide) (hS.news (j := 0) rfl) (by simp [Value.oneCell']) (by omega) (by unfold maxLen; omega)) ?_
   clear hS
   rintro _ w ⟨oq, c_oq, rfl, hS⟩; (try simp only [List.nil_append, List.cons_append, List.set] at hS); replace hS := SS.drop [] hS; (try simp only [List.nil_append, List.cons_append] at hS)
   refine ol_pure rfl (op_assign rfl) (ol_nil (pq_then (cw_seq (cw_region (ol_pure rfl (op_move rfl) (ol_pure rfl (op_assign rfl) (ol_nil ?_)))))))
   refine pq_then (cw_ret (ret1 rfl rfl ?_))
   rw [show l.map (Value.int .i64) ++ [Value.int .i64 (-1)] = (l ++ [-1]).map (Value.int .i64) from by simp] at hS
   exact ⟨_, rfl, l ++ [-1], oq, c_oq, by simp [hlO], by simp; omega, fun x hx => (List.mem_append.1 hx).elim (fun h => .inl (hl x h)) (fun h => .inr (by simpa using h)), by have h9 := SS.drop [_] hS; simpa [hlO] using h9⟩
  ·
   try simp only [dqT, dqF, dq1, dq2, dq3, dq4, dq5] at h30
   refine cw_skip (pq_then (cw_seq (cw_region (ol_pure rfl (op_move rfl) (ol_pure rfl (op_assign rfl) (ol_nil (pq_then ?_)))))))
   refine cw_ret (ret1 rfl rfl ?_)
   exact ⟨_, rfl, l, oO, cO, by rw [hlO], by omega, fun x hx => .inl (hl x hx), by have h9 := SS.drop [_] hS; simpa [hlO] using h9⟩
end Go.Proofs.Ytnmkffkalnkbbaa.K
