/-
  The part of a proof that an atom needs, as layer just finds it.
  No condition but the premises that each theorem names.
-/
import Derived.Test.YtmkgechdfimfnaaJfor2
namespace Go.Proofs.Ytmkgechdfimfnaa.K
open Go Go.RowKit
set_option linter.unusedVariables false
set_option linter.unusedSimpArgs false

open Pl
theorem need_in {n : Nat} {l : List Step} {ns : List Int} {N0 : Nat} (hr : ∀ a ∈ ns, 0 ≤ a ∧ a < n) (hb : ∀ a ∈ ns, 0 ≤ byI l a) (hN : l.length = N0) : ∀ a ∈ ns, (0 ≤ a ∧ a < (byL n l).length) ∧ valI (byL n l) a = byI l a ∧ 0 ≤ byI l a ∧ byI l a < N0 := fun a ha =>
  ⟨⟨(hr a ha).1, by rw [byL_len]; exact (hr a ha).2⟩, byL_val (hr a ha).1 (hr a ha).2, hb a ha, by have := byI_len l a; omega⟩
theorem pick_in {n : Nat} {l : List Step} {m : List Int} {k : Nat} {ns : List Int} {v : Int} (hr : ∀ a ∈ ns, 0 ≤ a ∧ a < n) : (∀ a ∈ pickA ns (aheadI l m k ns v), 0 ≤ a ∧ a < n) ∧ ∀ a ∈ pickA ns (aheadI l m k ns v), 0 ≤ byI l a := by
  by_cases h : 0 ≤ aheadI l m k ns v
  · obtain ⟨i, hi, _, h4, _, h6, _⟩ := aheadI_mem h
    rw [h4]
    refine ⟨fun a ha => ?_, fun a ha => ?_⟩ <;> have : a = ns[i] := by simpa using ha
    · subst this; exact hr _ (List.getElem_mem hi)
    · subst this; exact h6
  · rw [pickA_neg (by omega)]
    simp
theorem ah_in {n : Nat} {l : List Step} {ns : List Int} (hr : ∀ a ∈ ns, 0 ≤ a ∧ a < n) : ∀ a ∈ ns, (0 ≤ a ∧ a < (knownI n l).length) ∧ a < (byL n l).length ∧ valI (byL n l) a = byI l a := fun a ha =>
  ⟨⟨(hr a ha).1, by rw [known_len]; exact (hr a ha).2⟩, by rw [byL_len]; exact (hr a ha).2, byL_val (hr a ha).1 (hr a ha).2⟩
theorem one_all {x : Int} {P : Int → Prop} (h : P x) : ∀ y ∈ [x], P y := fun y hy => by
  have : y = x := by simpa using hy
  subst this
  exact h

set_option maxRecDepth 100000 in
set_option maxHeartbeats 8000000 in

theorem just_For_c (G : GH) (w0 : World) (hG : Holds G w0) {α : Type} {E : ER α} (hE : EMono E) (va vr : Value) (atoms : List α) (rs : List Rule) (h1 : RSl 1 E G va atoms) (h2 : RSl 3 ERule G vr rs) (hP : PrOk atoms.length rs) (vs vh : Value) (l : List Step) (hs : List Int) (h5 : RSl 2 EStep G vs l) (h6 : RSl 1 EInt G vh hs) (hL : LeanOk rs l) (hn : l.length ≤ 100000) (aa : Int) :
   Calls Try.prog 14 #[.agg #[va, vr], .agg #[vs, vh], .int .i64 aa] w0 (Rt G w0 (fun G v => ∃ us uh, v = .agg #[us, uh] ∧ RSl 2 EStep G us (forI atoms.length rs (l, hs) aa).1 ∧ RSl 1 EInt G uh (forI atoms.length rs (l, hs) aa).2)) := by
 obtain ⟨oA, cA, rfl, hlA, hmA⟩ := h1.elim
 obtain ⟨oR, cR, rfl, hlR, hmR⟩ := h2.elim
 have hle1 := h1.le
 have hle2 := h2.le
 have hPn := hP.n_le
 have hPm := hP.m_le
 obtain ⟨oP, cP, rfl, hlP, hmP⟩ := h5.elim
 have hPle := h5.le
 obtain ⟨oh, ch, rfl, _, _⟩ := h6.elim
 refine enter Try.func14 rfl (N := 157) rfl (Nat.le_of_ble_eq_true rfl) ?_
 have hS := SS.init hG
 refine cw_seq ?_
 refine cw_region ?_
 refine ol_step rfl (op_box hS rfl rfl) ?_
 clear hS
 rintro _ w ⟨b3, rfl, hS⟩
 refine ol_step rfl (op_box hS rfl rfl) ?_
 clear hS
 rintro _ w ⟨b4, rfl, hS⟩
 refine ol_step rfl (op_alloc hS el_34 rfl) ?_
 clear hS
 rintro _ w ⟨res, rfl, hS⟩
 refine ol_nil ?_
 refine pq_then ?_
 refine cw_seq ?_
 refine cw_seq ?_
 refine cw_region ?_
 refine ol_pure rfl (op_move rfl) ?_
 refine ol_pure rfl (op_lss rfl rfl) ?_
 refine ol_pure rfl (op_move rfl) ?_
 refine ol_split (fun h26 => ?_) (fun h26 => ?_)
 ·
  skip
  try simp only [decide_eq_true_eq, decide_eq_false_iff_not, Bool.not_eq_true', Bool.not_eq_false', Bool.not_eq_eq_eq_not, Bool.not_true, Bool.not_false] at h26
  refine ol_guard_no rfl rfl rfl rfl ?_
  refine ol_guard_no rfl rfl rfl rfl ?_
  refine ol_guard_no rfl rfl rfl rfl ?_
  refine ol_guard_no rfl rfl rfl rfl ?_
  refine ol_guard_no rfl rfl rfl rfl ?_
  refine ol_pure rfl (op_pick_t rfl rfl) ?_
  refine ol_nil ?_
  refine pq_then ?_
  refine cw_cond_t rfl ?_
  refine cw_seq ?_
  refine cw_region ?_
  refine ol_pure rfl (op_build (is := []) (xs := []) (v := .agg #[.slice none 0 0, .slice none 0 0]) rfl rfl (fun w => by kernel_rfl)) ?_
  refine ol_step0  (op_storeN (j := 0) hS sz_34 rfl rfl rfl rfl rfl (by simp [Value.oneCell'])) ?_
  clear hS
  rintro _ w hS; (try simp only [List.nil_append, List.cons_append, List.set] at hS)
  refine ol_nil ?_
  refine pq_then ?_
  refine cw_ret ?_
  refine pq_ret ?_
  refine retN rfl agg_34 rfl (by rfl) (fun k u hk => (hS.bcell (i := 0) rfl).trans hk) ?_
  refine hS.rt _ ⟨_, _, rfl, ?_, ?_⟩ <;> rw [forI, if_pos (by omega)] <;> exact RSl.nil _
 ·
  skip
  try simp only [decide_eq_true_eq, decide_eq_false_iff_not, Bool.not_eq_true', Bool.not_eq_false', Bool.not_eq_eq_eq_not, Bool.not_true, Bool.not_false] at h26
  refine ol_guard_pure rfl rfl rfl (op_move rfl) ?_
  refine ol_guard_pure rfl rfl rfl (op_fieldAddr fld_26_0 rfl) ?_
  refine ol_guard_load rfl rfl rfl (op_load1 one_24 rfl (fun w hw => (hw.bcell (i := 2) rfl).trans rfl)) hS ?_
  refine ol_guard_pure rfl rfl rfl (op_len sl_24 rfl rfl) ?_
  refine ol_guard_pure rfl rfl rfl (op_geq rfl rfl) ?_
  refine ol_pure rfl (op_pick_f rfl rfl) ?_
  refine ol_nil ?_
  refine pq_then ?_
  refine cw_cond rfl (fun h32 => ?_) (fun h32 => ?_)
  ·
   skip
   try simp only [decide_eq_true_eq, decide_eq_false_iff_not, Bool.not_eq_true', Bool.not_eq_false', Bool.not_eq_eq_eq_not, Bool.not_true, Bool.not_false] at h32
   refine cw_seq ?_
   refine cw_region ?_
   refine ol_pure rfl (op_build (is := []) (xs := []) (v := .agg #[.slice none 0 0, .slice none 0 0]) rfl rfl (fun w => by kernel_rfl)) ?_
   refine ol_step0  (op_storeN (j := 0) hS sz_34 rfl rfl rfl rfl rfl (by simp [Value.oneCell'])) ?_
   clear hS
   rintro _ w hS; (try simp only [List.nil_append, List.cons_append, List.set] at hS)
   refine ol_nil ?_
   refine pq_then ?_
   refine cw_ret ?_
   refine pq_ret ?_
   refine retN rfl agg_34 rfl (by rfl) (fun k u hk => (hS.bcell (i := 0) rfl).trans hk) ?_
   refine hS.rt _ ⟨_, _, rfl, ?_, ?_⟩ <;> rw [forI, if_pos (by omega)] <;> exact RSl.nil _
  ·
   skip
   try simp only [decide_eq_true_eq, decide_eq_false_iff_not, Bool.not_eq_true', Bool.not_eq_false', Bool.not_eq_eq_eq_not, Bool.not_true, Bool.not_false] at h32
   have haa : 0 ≤ aa ∧ aa < atoms.length := by omega
   refine cw_skip ?_
   refine pq_then ?_
   refine cw_seq ?_
   refine al_start' hS (hS.take 3) (by kernel_rfl) rfl (fun w hS hT => ?_)
   refine al_load (i := 0) rfl (by kernel_rfl) (by kernel_rfl) (by kernel_rfl) rfl (fun _ _ _ h => h) (by exact op_loadN agg_26 rfl (by rfl) (fun w hw k u hk => (hw.bcell (i := 2) rfl).trans hk)) rfl hT ?_
   refine al_load (i := 1) rfl (by kernel_rfl) (by kernel_rfl) (by kernel_rfl) rfl (fun _ _ _ h => h) (by exact op_loadN agg_34 rfl (by rfl) (fun w hw k u hk => (hw.bcell (i := 1) rfl).trans hk)) rfl hT ?_
   refine al_load (i := 3) rfl (by kernel_rfl) (by kernel_rfl) (by kernel_rfl) rfl (fun _ _ _ h => h) (by exact op_loadN agg_26 rfl (by rfl) (fun w hw k u hk => (hw.bcell (i := 2) rfl).trans hk)) rfl hT ?_
   refine al_load (i := 4) rfl (by kernel_rfl) (by kernel_rfl) (by kernel_rfl) rfl (fun _ _ _ h => h) (by exact op_loadN agg_34 rfl (by rfl) (fun w hw k u hk => (hw.bcell (i := 1) rfl).trans hk)) rfl hT ?_
   refine al_meet (fuel2 := 0) (ds2 := [9, 8, 7, 6, 5, 4, 3, 2, 1, 0]) (fun e w => ∃ b7 b8 o36 c36 o39 c39 Gd, e = [(2, .int .i64 aa), (3, .pointer (some ⟨b3, 0, none⟩)), (4, .pointer (some ⟨b4, 0, none⟩)), (6, .pointer (some ⟨res, 0, none⟩)), (7, .pointer (some ⟨b7, 0, none⟩)), (8, .pointer (some ⟨b8, 0, none⟩))] ∧ Le G Gd ∧ RSl 1 EInt Gd (.slice o36 atoms.length c36) (byL atoms.length l) ∧ RSl 1 EInt Gd (.slice o39 atoms.length c39) (knownI atoms.length l) ∧ SS G w0 Gd [.blk b8 28 [.slice o39 atoms.length c39], .blk b7 28 [.slice o36 atoms.length c36], .blk res 34 [.slice none 0 0, .slice none 0 0], .blk b4 34 [.slice oP l.length cP, .slice oh hs.length ch], .blk b3 26 [.slice oA atoms.length cA, .slice oR rs.length cR]] w) (fun K3 => ?_) ?_
   ·
    skip
    refine al_three (i := 2) (j := 6) (k := 7) (by kernel_rfl) (fun a ha => ?_) (fun a ha => ?_) (fun a ha => ?_)
    ·
     skip
     refine wpOp_of_opk (i := 2) rfl ha (op_call_fr hS cf_41 rfl (just_first_c _ _ hS.hold hE _ _ atoms rs h1 h2 hP _ _ l h5 ⟨_, _, _, rfl⟩)) ?_
     clear hS
     rintro v36 w ⟨F36, G36, hR36, hF36, hf36, hl36, hS⟩
     obtain ⟨o36, c36, rfl, _, _⟩ := hR36.elimN (byL_len _ _)
     have hT := hT.back hS (by first | exact Le.refl _ | assumption) (fun x hx => by try simp only [List.take_succ_cons, List.take_zero, List.mem_cons, List.not_mem_nil, or_false] at hx; (rcases hx with rfl | rfl | rfl) <;> simp)
     refine ⟨fun _ _ => hT, ?_⟩
     refine al_at ?_ (ha.put (blt_lt rfl) _)
     refine al_three (i := 5) (j := 6) (k := 7) (by kernel_rfl) (fun a ha => ?_) (fun a ha => ?_) (fun a ha => ?_)
     ·
      skip
      refine wpOp_of_opk (i := 5) rfl ha (op_call_fr hS cf_19 rfl (just_Known_c _ _ hS.hold hE _ _ atoms rs (h1.mono hE hl36) (h2.mono ERule.mono hl36) hP _ _ l (h5.mono EStep.mono hl36) ⟨_, _, _, rfl⟩)) ?_
      clear hS
      rintro v39 w ⟨F39, G39, hR39, hF39, hf39, hl39, hS⟩
      obtain ⟨o39, c39, rfl, _, _⟩ := hR39.elimN (known_len _ _)
      have hl3x := hl36.trans hl39
      have hT := hT.back hS (by first | exact Le.refl _ | assumption) (fun x hx => by try simp only [List.take_succ_cons, List.take_zero, List.mem_cons, List.not_mem_nil, or_false] at hx; (rcases hx with rfl | rfl | rfl) <;> simp)
      refine ⟨fun _ _ => hT, ?_⟩
      refine al_at ?_ (ha.put (blt_lt rfl) _)
      refine al_two (i := 6) (j := 7) (by kernel_rfl) (fun a ha => ?_) (fun a ha => ?_)
      ·
       skip
       refine wpOp_of_opk (i := 6) rfl ha (op_alloc hS el_28 rfl) ?_
       clear hS
       rintro _ w ⟨b7, rfl, hS⟩
       have hT := hT.back hS (by first | exact Le.refl _ | assumption) (fun x hx => by try simp only [List.take_succ_cons, List.take_zero, List.mem_cons, List.not_mem_nil, or_false] at hx; (rcases hx with rfl | rfl | rfl) <;> simp)
       refine ⟨fun _ _ => hT, ?_⟩
       refine al_at ?_ (ha.put (blt_lt rfl) _)
       refine al_step (i := 7) rfl (by kernel_rfl) rfl (op_alloc hS el_28 rfl) ?_
       clear hS
       rintro _ w ⟨b8, rfl, hS⟩
       have hT := hT.back hS (by first | exact Le.refl _ | assumption) (fun x hx => by try simp only [List.take_succ_cons, List.take_zero, List.mem_cons, List.not_mem_nil, or_false] at hx; (rcases hx with rfl | rfl | rfl) <;> simp)
       refine ⟨fun _ _ => hT, ?_⟩
       refine al_step0 (i := 8) rfl (by kernel_rfl) (op_storeB0 (j := 1) hS sz_28 rfl rfl rfl rfl) ?_
       clear hS
       rintro _ w hS; (try simp only [List.nil_append, List.cons_append, List.set] at hS)
       have hT := hT.back hS (by first | exact Le.refl _ | assumption) (fun x hx => by try simp only [List.take_succ_cons, List.take_zero, List.mem_cons, List.not_mem_nil, or_false] at hx; (rcases hx with rfl | rfl | rfl) <;> simp)
       refine ⟨fun _ _ => hT, ?_⟩
       refine al_step0 (i := 9) rfl (by kernel_rfl) (op_storeB0 (j := 0) hS sz_28 rfl rfl rfl rfl) ?_
       clear hS
       rintro _ w hS; (try simp only [List.nil_append, List.cons_append, List.set] at hS)
       refine ⟨no_need (by kernel_rfl), ?_⟩
       exact K3 _ _ _ _ (by kernel_rfl) (by exact ⟨b7, b8, o36, c36, o39, c39, G39, rfl, hl3x, (hR36.mono EInt.mono hf36).mono EInt.mono hl39, hR39.mono EInt.mono hf39, hS⟩) ((Sub.cons rfl (Sub.cons rfl (Sub.cons rfl (Sub.cons rfl (Sub.cons rfl (Sub.cons rfl Sub.nil)))))))
      ·
       skip
       refine wpOp_of_opk (i := 7) rfl ha (op_alloc hS el_28 rfl) ?_
       clear hS
       rintro _ w ⟨b8, rfl, hS⟩
       have hT := hT.back hS (by first | exact Le.refl _ | assumption) (fun x hx => by try simp only [List.take_succ_cons, List.take_zero, List.mem_cons, List.not_mem_nil, or_false] at hx; (rcases hx with rfl | rfl | rfl) <;> simp)
       refine ⟨fun _ _ => hT, ?_⟩
       refine al_at ?_ (ha.put (blt_lt rfl) _)
       refine al_step (i := 6) rfl (by kernel_rfl) rfl (op_alloc hS el_28 rfl) ?_
       clear hS
       rintro _ w ⟨b7, rfl, hS⟩
       have hT := hT.back hS (by first | exact Le.refl _ | assumption) (fun x hx => by try simp only [List.take_succ_cons, List.take_zero, List.mem_cons, List.not_mem_nil, or_false] at hx; (rcases hx with rfl | rfl | rfl) <;> simp)
       refine ⟨fun _ _ => hT, ?_⟩
       refine al_step0 (i := 8) rfl (by kernel_rfl) (op_storeB0 (j := 0) hS sz_28 rfl rfl rfl rfl) ?_
       clear hS
       rintro _ w hS; (try simp only [List.nil_append, List.cons_append, List.set] at hS)
       have hT := hT.back hS (by first | exact Le.refl _ | assumption) (fun x hx => by try simp only [List.take_succ_cons, List.take_zero, List.mem_cons, List.not_mem_nil, or_false] at hx; (rcases hx with rfl | rfl | rfl) <;> simp)
       refine ⟨fun _ _ => hT, ?_⟩
       refine al_step0 (i := 9) rfl (by kernel_rfl) (op_storeB0 (j := 1) hS sz_28 rfl rfl rfl rfl) ?_
       clear hS
       rintro _ w hS; (try simp only [List.nil_append, List.cons_append, List.set] at hS)
       refine ⟨no_need (by kernel_rfl), ?_⟩
       exact K3 _ _ _ _ (by kernel_rfl) (by exact ⟨b7, b8, o36, c36, o39, c39, G39, rfl, hl3x, (hR36.mono EInt.mono hf36).mono EInt.mono hl39, hR39.mono EInt.mono hf39, hS.perm (List.Perm.swap _ _ _)⟩) ((Sub.cons rfl (Sub.cons rfl (Sub.cons rfl (Sub.cons rfl (Sub.cons rfl (Sub.cons rfl Sub.nil)))))))
     ·
      skip
      refine wpOp_of_opk (i := 6) rfl ha (op_alloc hS el_28 rfl) ?_
      clear hS
      rintro _ w ⟨b7, rfl, hS⟩
      have hT := hT.back hS (by first | exact Le.refl _ | assumption) (fun x hx => by try simp only [List.take_succ_cons, List.take_zero, List.mem_cons, List.not_mem_nil, or_false] at hx; (rcases hx with rfl | rfl | rfl) <;> simp)
      refine ⟨fun _ _ => hT, ?_⟩
      refine al_at ?_ (ha.put (blt_lt rfl) _)
      refine al_two (i := 5) (j := 7) (by kernel_rfl) (fun a ha => ?_) (fun a ha => ?_)
      ·
       skip
       refine wpOp_of_opk (i := 5) rfl ha (op_call_fr hS cf_19 rfl (just_Known_c _ _ hS.hold hE _ _ atoms rs (h1.mono hE hl36) (h2.mono ERule.mono hl36) hP _ _ l (h5.mono EStep.mono hl36) ⟨_, _, _, rfl⟩)) ?_
       clear hS
       rintro v39 w ⟨F39, G39, hR39, hF39, hf39, hl39, hS⟩
       obtain ⟨o39, c39, rfl, _, _⟩ := hR39.elimN (known_len _ _)
       have hl3x := hl36.trans hl39
       have hT := hT.back hS (by first | exact Le.refl _ | assumption) (fun x hx => by try simp only [List.take_succ_cons, List.take_zero, List.mem_cons, List.not_mem_nil, or_false] at hx; (rcases hx with rfl | rfl | rfl) <;> simp)
       refine ⟨fun _ _ => hT, ?_⟩
       refine al_at ?_ (ha.put (blt_lt rfl) _)
       refine al_step (i := 7) rfl (by kernel_rfl) rfl (op_alloc hS el_28 rfl) ?_
       clear hS
       rintro _ w ⟨b8, rfl, hS⟩
       have hT := hT.back hS (by first | exact Le.refl _ | assumption) (fun x hx => by try simp only [List.take_succ_cons, List.take_zero, List.mem_cons, List.not_mem_nil, or_false] at hx; (rcases hx with rfl | rfl | rfl) <;> simp)
       refine ⟨fun _ _ => hT, ?_⟩
       refine al_step0 (i := 8) rfl (by kernel_rfl) (op_storeB0 (j := 1) hS sz_28 rfl rfl rfl rfl) ?_
       clear hS
       rintro _ w hS; (try simp only [List.nil_append, List.cons_append, List.set] at hS)
       have hT := hT.back hS (by first | exact Le.refl _ | assumption) (fun x hx => by try simp only [List.take_succ_cons, List.take_zero, List.mem_cons, List.not_mem_nil, or_false] at hx; (rcases hx with rfl | rfl | rfl) <;> simp)
       refine ⟨fun _ _ => hT, ?_⟩
       refine al_step0 (i := 9) rfl (by kernel_rfl) (op_storeB0 (j := 0) hS sz_28 rfl rfl rfl rfl) ?_
       clear hS
       rintro _ w hS; (try simp only [List.nil_append, List.cons_append, List.set] at hS)
       refine ⟨no_need (by kernel_rfl), ?_⟩
       exact K3 _ _ _ _ (by kernel_rfl) (by exact ⟨b7, b8, o36, c36, o39, c39, G39, rfl, hl3x, (hR36.mono EInt.mono hf36).mono EInt.mono hl39, hR39.mono EInt.mono hf39, hS⟩) ((Sub.cons rfl (Sub.cons rfl (Sub.cons rfl (Sub.cons rfl (Sub.cons rfl (Sub.cons rfl Sub.nil)))))))
      ·
       skip
       refine wpOp_of_opk (i := 7) rfl ha (op_alloc hS el_28 rfl) ?_
       clear hS
       rintro _ w ⟨b8, rfl, hS⟩
       have hT := hT.back hS (by first | exact Le.refl _ | assumption) (fun x hx => by try simp only [List.take_succ_cons, List.take_zero, List.mem_cons, List.not_mem_nil, or_false] at hx; (rcases hx with rfl | rfl | rfl) <;> simp)
       refine ⟨fun _ _ => hT, ?_⟩
       refine al_at ?_ (ha.put (blt_lt rfl) _)
       refine al_step (i := 5) rfl (by kernel_rfl) rfl (op_call_fr hS cf_19 rfl (just_Known_c _ _ hS.hold hE _ _ atoms rs (h1.mono hE hl36) (h2.mono ERule.mono hl36) hP _ _ l (h5.mono EStep.mono hl36) ⟨_, _, _, rfl⟩)) ?_
       clear hS
       rintro v39 w ⟨F39, G39, hR39, hF39, hf39, hl39, hS⟩
       obtain ⟨o39, c39, rfl, _, _⟩ := hR39.elimN (known_len _ _)
       have hl3x := hl36.trans hl39
       have hT := hT.back hS (by first | exact Le.refl _ | assumption) (fun x hx => by try simp only [List.take_succ_cons, List.take_zero, List.mem_cons, List.not_mem_nil, or_false] at hx; (rcases hx with rfl | rfl | rfl) <;> simp)
       refine ⟨fun _ _ => hT, ?_⟩
       refine al_step0 (i := 8) rfl (by kernel_rfl) (op_storeB0 (j := 1) hS sz_28 rfl rfl rfl rfl) ?_
       clear hS
       rintro _ w hS; (try simp only [List.nil_append, List.cons_append, List.set] at hS)
       have hT := hT.back hS (by first | exact Le.refl _ | assumption) (fun x hx => by try simp only [List.take_succ_cons, List.take_zero, List.mem_cons, List.not_mem_nil, or_false] at hx; (rcases hx with rfl | rfl | rfl) <;> simp)
       refine ⟨fun _ _ => hT, ?_⟩
       refine al_step0 (i := 9) rfl (by kernel_rfl) (op_storeB0 (j := 0) hS sz_28 rfl rfl rfl rfl) ?_
       clear hS
       rintro _ w hS; (try simp only [List.nil_append, List.cons_append, List.set] at hS)
       refine ⟨no_need (by kernel_rfl), ?_⟩
       exact K3 _ _ _ _ (by kernel_rfl) (by exact ⟨b7, b8, o36, c36, o39, c39, G39, rfl, hl3x, (hR36.mono EInt.mono hf36).mono EInt.mono hl39, hR39.mono EInt.mono hf39, hS⟩) ((Sub.cons rfl (Sub.cons rfl (Sub.cons rfl (Sub.cons rfl (Sub.cons rfl (Sub.cons rfl Sub.nil)))))))
     ·
      skip
      refine wpOp_of_opk (i := 7) rfl ha (op_alloc hS el_28 rfl) ?_
      clear hS
      rintro _ w ⟨b8, rfl, hS⟩
      have hT := hT.back hS (by first | exact Le.refl _ | assumption) (fun x hx => by try simp only [List.take_succ_cons, List.take_zero, List.mem_cons, List.not_mem_nil, or_false] at hx; (rcases hx with rfl | rfl | rfl) <;> simp)
      refine ⟨fun _ _ => hT, ?_⟩
      refine al_at ?_ (ha.put (blt_lt rfl) _)
      refine al_two (i := 5) (j := 6) (by kernel_rfl) (fun a ha => ?_) (fun a ha => ?_)
      ·
       skip
       refine wpOp_of_opk (i := 5) rfl ha (op_call_fr hS cf_19 rfl (just_Known_c _ _ hS.hold hE _ _ atoms rs (h1.mono hE hl36) (h2.mono ERule.mono hl36) hP _ _ l (h5.mono EStep.mono hl36) ⟨_, _, _, rfl⟩)) ?_
       clear hS
       rintro v39 w ⟨F39, G39, hR39, hF39, hf39, hl39, hS⟩
       obtain ⟨o39, c39, rfl, _, _⟩ := hR39.elimN (known_len _ _)
       have hl3x := hl36.trans hl39
       have hT := hT.back hS (by first | exact Le.refl _ | assumption) (fun x hx => by try simp only [List.take_succ_cons, List.take_zero, List.mem_cons, List.not_mem_nil, or_false] at hx; (rcases hx with rfl | rfl | rfl) <;> simp)
       refine ⟨fun _ _ => hT, ?_⟩
       refine al_at ?_ (ha.put (blt_lt rfl) _)
       refine al_step (i := 6) rfl (by kernel_rfl) rfl (op_alloc hS el_28 rfl) ?_
       clear hS
       rintro _ w ⟨b7, rfl, hS⟩
       have hT := hT.back hS (by first | exact Le.refl _ | assumption) (fun x hx => by try simp only [List.take_succ_cons, List.take_zero, List.mem_cons, List.not_mem_nil, or_false] at hx; (rcases hx with rfl | rfl | rfl) <;> simp)
       refine ⟨fun _ _ => hT, ?_⟩
       refine al_step0 (i := 8) rfl (by kernel_rfl) (op_storeB0 (j := 0) hS sz_28 rfl rfl rfl rfl) ?_
       clear hS
       rintro _ w hS; (try simp only [List.nil_append, List.cons_append, List.set] at hS)
       have hT := hT.back hS (by first | exact Le.refl _ | assumption) (fun x hx => by try simp only [List.take_succ_cons, List.take_zero, List.mem_cons, List.not_mem_nil, or_false] at hx; (rcases hx with rfl | rfl | rfl) <;> simp)
       refine ⟨fun _ _ => hT, ?_⟩
       refine al_step0 (i := 9) rfl (by kernel_rfl) (op_storeB0 (j := 1) hS sz_28 rfl rfl rfl rfl) ?_
       clear hS
       rintro _ w hS; (try simp only [List.nil_append, List.cons_append, List.set] at hS)
       refine ⟨no_need (by kernel_rfl), ?_⟩
       exact K3 _ _ _ _ (by kernel_rfl) (by exact ⟨b7, b8, o36, c36, o39, c39, G39, rfl, hl3x, (hR36.mono EInt.mono hf36).mono EInt.mono hl39, hR39.mono EInt.mono hf39, hS.perm (List.Perm.swap _ _ _)⟩) ((Sub.cons rfl (Sub.cons rfl (Sub.cons rfl (Sub.cons rfl (Sub.cons rfl (Sub.cons rfl Sub.nil)))))))
      ·
       skip
       refine wpOp_of_opk (i := 6) rfl ha (op_alloc hS el_28 rfl) ?_
       clear hS
       rintro _ w ⟨b7, rfl, hS⟩
       have hT := hT.back hS (by first | exact Le.refl _ | assumption) (fun x hx => by try simp only [List.take_succ_cons, List.take_zero, List.mem_cons, List.not_mem_nil, or_false] at hx; (rcases hx with rfl | rfl | rfl) <;> simp)
       refine ⟨fun _ _ => hT, ?_⟩
       refine al_at ?_ (ha.put (blt_lt rfl) _)
       refine al_step (i := 5) rfl (by kernel_rfl) rfl (op_call_fr hS cf_19 rfl (just_Known_c _ _ hS.hold hE _ _ atoms rs (h1.mono hE hl36) (h2.mono ERule.mono hl36) hP _ _ l (h5.mono EStep.mono hl36) ⟨_, _, _, rfl⟩)) ?_
       clear hS
       rintro v39 w ⟨F39, G39, hR39, hF39, hf39, hl39, hS⟩
       obtain ⟨o39, c39, rfl, _, _⟩ := hR39.elimN (known_len _ _)
       have hl3x := hl36.trans hl39
       have hT := hT.back hS (by first | exact Le.refl _ | assumption) (fun x hx => by try simp only [List.take_succ_cons, List.take_zero, List.mem_cons, List.not_mem_nil, or_false] at hx; (rcases hx with rfl | rfl | rfl) <;> simp)
       refine ⟨fun _ _ => hT, ?_⟩
       refine al_step0 (i := 8) rfl (by kernel_rfl) (op_storeB0 (j := 0) hS sz_28 rfl rfl rfl rfl) ?_
       clear hS
       rintro _ w hS; (try simp only [List.nil_append, List.cons_append, List.set] at hS)
       have hT := hT.back hS (by first | exact Le.refl _ | assumption) (fun x hx => by try simp only [List.take_succ_cons, List.take_zero, List.mem_cons, List.not_mem_nil, or_false] at hx; (rcases hx with rfl | rfl | rfl) <;> simp)
       refine ⟨fun _ _ => hT, ?_⟩
       refine al_step0 (i := 9) rfl (by kernel_rfl) (op_storeB0 (j := 1) hS sz_28 rfl rfl rfl rfl) ?_
       clear hS
       rintro _ w hS; (try simp only [List.nil_append, List.cons_append, List.set] at hS)
       refine ⟨no_need (by kernel_rfl), ?_⟩
       exact K3 _ _ _ _ (by kernel_rfl) (by exact ⟨b7, b8, o36, c36, o39, c39, G39, rfl, hl3x, (hR36.mono EInt.mono hf36).mono EInt.mono hl39, hR39.mono EInt.mono hf39, hS.perm (List.Perm.swap _ _ _)⟩) ((Sub.cons rfl (Sub.cons rfl (Sub.cons rfl (Sub.cons rfl (Sub.cons rfl (Sub.cons rfl Sub.nil)))))))
    ·
     skip
     refine wpOp_of_opk (i := 6) rfl ha (op_alloc hS el_28 rfl) ?_
     clear hS
     rintro _ w ⟨b7, rfl, hS⟩
     have hT := hT.back hS (by first | exact Le.refl _ | assumption) (fun x hx => by try simp only [List.take_succ_cons, List.take_zero, List.mem_cons, List.not_mem_nil, or_false] at hx; (rcases hx with rfl | rfl | rfl) <;> simp)
     refine ⟨fun _ _ => hT, ?_⟩
     refine al_at ?_ (ha.put (blt_lt rfl) _)
     refine al_two (i := 2) (j := 7) (by kernel_rfl) (fun a ha => ?_) (fun a ha => ?_)
     ·
      skip
      refine wpOp_of_opk (i := 2) rfl ha (op_call_fr hS cf_41 rfl (just_first_c _ _ hS.hold hE _ _ atoms rs h1 h2 hP _ _ l h5 ⟨_, _, _, rfl⟩)) ?_
      clear hS
      rintro v36 w ⟨F36, G36, hR36, hF36, hf36, hl36, hS⟩
      obtain ⟨o36, c36, rfl, _, _⟩ := hR36.elimN (byL_len _ _)
      have hT := hT.back hS (by first | exact Le.refl _ | assumption) (fun x hx => by try simp only [List.take_succ_cons, List.take_zero, List.mem_cons, List.not_mem_nil, or_false] at hx; (rcases hx with rfl | rfl | rfl) <;> simp)
      refine ⟨fun _ _ => hT, ?_⟩
      refine al_at ?_ (ha.put (blt_lt rfl) _)
      refine al_two (i := 5) (j := 7) (by kernel_rfl) (fun a ha => ?_) (fun a ha => ?_)
      ·
       skip
       refine wpOp_of_opk (i := 5) rfl ha (op_call_fr hS cf_19 rfl (just_Known_c _ _ hS.hold hE _ _ atoms rs (h1.mono hE hl36) (h2.mono ERule.mono hl36) hP _ _ l (h5.mono EStep.mono hl36) ⟨_, _, _, rfl⟩)) ?_
       clear hS
       rintro v39 w ⟨F39, G39, hR39, hF39, hf39, hl39, hS⟩
       obtain ⟨o39, c39, rfl, _, _⟩ := hR39.elimN (known_len _ _)
       have hl3x := hl36.trans hl39
       have hT := hT.back hS (by first | exact Le.refl _ | assumption) (fun x hx => by try simp only [List.take_succ_cons, List.take_zero, List.mem_cons, List.not_mem_nil, or_false] at hx; (rcases hx with rfl | rfl | rfl) <;> simp)
       refine ⟨fun _ _ => hT, ?_⟩
       refine al_at ?_ (ha.put (blt_lt rfl) _)
       refine al_step (i := 7) rfl (by kernel_rfl) rfl (op_alloc hS el_28 rfl) ?_
       clear hS
       rintro _ w ⟨b8, rfl, hS⟩
       have hT := hT.back hS (by first | exact Le.refl _ | assumption) (fun x hx => by try simp only [List.take_succ_cons, List.take_zero, List.mem_cons, List.not_mem_nil, or_false] at hx; (rcases hx with rfl | rfl | rfl) <;> simp)
       refine ⟨fun _ _ => hT, ?_⟩
       refine al_step0 (i := 8) rfl (by kernel_rfl) (op_storeB0 (j := 1) hS sz_28 rfl rfl rfl rfl) ?_
       clear hS
       rintro _ w hS; (try simp only [List.nil_append, List.cons_append, List.set] at hS)
       have hT := hT.back hS (by first | exact Le.refl _ | assumption) (fun x hx => by try simp only [List.take_succ_cons, List.take_zero, List.mem_cons, List.not_mem_nil, or_false] at hx; (rcases hx with rfl | rfl | rfl) <;> simp)
       refine ⟨fun _ _ => hT, ?_⟩
       refine al_step0 (i := 9) rfl (by kernel_rfl) (op_storeB0 (j := 0) hS sz_28 rfl rfl rfl rfl) ?_
       clear hS
       rintro _ w hS; (try simp only [List.nil_append, List.cons_append, List.set] at hS)
       refine ⟨no_need (by kernel_rfl), ?_⟩
       exact K3 _ _ _ _ (by kernel_rfl) (by exact ⟨b7, b8, o36, c36, o39, c39, G39, rfl, hl3x, (hR36.mono EInt.mono hf36).mono EInt.mono hl39, hR39.mono EInt.mono hf39, hS⟩) ((Sub.cons rfl (Sub.cons rfl (Sub.cons rfl (Sub.cons rfl (Sub.cons rfl (Sub.cons rfl Sub.nil)))))))
      ·
       skip
       refine wpOp_of_opk (i := 7) rfl ha (op_alloc hS el_28 rfl) ?_
       clear hS
       rintro _ w ⟨b8, rfl, hS⟩
       have hT := hT.back hS (by first | exact Le.refl _ | assumption) (fun x hx => by try simp only [List.take_succ_cons, List.take_zero, List.mem_cons, List.not_mem_nil, or_false] at hx; (rcases hx with rfl | rfl | rfl) <;> simp)
       refine ⟨fun _ _ => hT, ?_⟩
       refine al_at ?_ (ha.put (blt_lt rfl) _)
       refine al_step (i := 5) rfl (by kernel_rfl) rfl (op_call_fr hS cf_19 rfl (just_Known_c _ _ hS.hold hE _ _ atoms rs (h1.mono hE hl36) (h2.mono ERule.mono hl36) hP _ _ l (h5.mono EStep.mono hl36) ⟨_, _, _, rfl⟩)) ?_
       clear hS
       rintro v39 w ⟨F39, G39, hR39, hF39, hf39, hl39, hS⟩
       obtain ⟨o39, c39, rfl, _, _⟩ := hR39.elimN (known_len _ _)
       have hl3x := hl36.trans hl39
       have hT := hT.back hS (by first | exact Le.refl _ | assumption) (fun x hx => by try simp only [List.take_succ_cons, List.take_zero, List.mem_cons, List.not_mem_nil, or_false] at hx; (rcases hx with rfl | rfl | rfl) <;> simp)
       refine ⟨fun _ _ => hT, ?_⟩
       refine al_step0 (i := 8) rfl (by kernel_rfl) (op_storeB0 (j := 1) hS sz_28 rfl rfl rfl rfl) ?_
       clear hS
       rintro _ w hS; (try simp only [List.nil_append, List.cons_append, List.set] at hS)
       have hT := hT.back hS (by first | exact Le.refl _ | assumption) (fun x hx => by try simp only [List.take_succ_cons, List.take_zero, List.mem_cons, List.not_mem_nil, or_false] at hx; (rcases hx with rfl | rfl | rfl) <;> simp)
       refine ⟨fun _ _ => hT, ?_⟩
       refine al_step0 (i := 9) rfl (by kernel_rfl) (op_storeB0 (j := 0) hS sz_28 rfl rfl rfl rfl) ?_
       clear hS
       rintro _ w hS; (try simp only [List.nil_append, List.cons_append, List.set] at hS)
       refine ⟨no_need (by kernel_rfl), ?_⟩
       exact K3 _ _ _ _ (by kernel_rfl) (by exact ⟨b7, b8, o36, c36, o39, c39, G39, rfl, hl3x, (hR36.mono EInt.mono hf36).mono EInt.mono hl39, hR39.mono EInt.mono hf39, hS⟩) ((Sub.cons rfl (Sub.cons rfl (Sub.cons rfl (Sub.cons rfl (Sub.cons rfl (Sub.cons rfl Sub.nil)))))))
     ·
      skip
      refine wpOp_of_opk (i := 7) rfl ha (op_alloc hS el_28 rfl) ?_
      clear hS
      rintro _ w ⟨b8, rfl, hS⟩
      have hT := hT.back hS (by first | exact Le.refl _ | assumption) (fun x hx => by try simp only [List.take_succ_cons, List.take_zero, List.mem_cons, List.not_mem_nil, or_false] at hx; (rcases hx with rfl | rfl | rfl) <;> simp)
      refine ⟨fun _ _ => hT, ?_⟩
      refine al_at ?_ (ha.put (blt_lt rfl) _)
      refine al_step (i := 2) rfl (by kernel_rfl) rfl (op_call_fr hS cf_41 rfl (just_first_c _ _ hS.hold hE _ _ atoms rs h1 h2 hP _ _ l h5 ⟨_, _, _, rfl⟩)) ?_
      clear hS
      rintro v36 w ⟨F36, G36, hR36, hF36, hf36, hl36, hS⟩
      obtain ⟨o36, c36, rfl, _, _⟩ := hR36.elimN (byL_len _ _)
      have hT := hT.back hS (by first | exact Le.refl _ | assumption) (fun x hx => by try simp only [List.take_succ_cons, List.take_zero, List.mem_cons, List.not_mem_nil, or_false] at hx; (rcases hx with rfl | rfl | rfl) <;> simp)
      refine ⟨fun _ _ => hT, ?_⟩
      refine al_step (i := 5) rfl (by kernel_rfl) rfl (op_call_fr hS cf_19 rfl (just_Known_c _ _ hS.hold hE _ _ atoms rs (h1.mono hE hl36) (h2.mono ERule.mono hl36) hP _ _ l (h5.mono EStep.mono hl36) ⟨_, _, _, rfl⟩)) ?_
      clear hS
      rintro v39 w ⟨F39, G39, hR39, hF39, hf39, hl39, hS⟩
      obtain ⟨o39, c39, rfl, _, _⟩ := hR39.elimN (known_len _ _)
      have hl3x := hl36.trans hl39
      have hT := hT.back hS (by first | exact Le.refl _ | assumption) (fun x hx => by try simp only [List.take_succ_cons, List.take_zero, List.mem_cons, List.not_mem_nil, or_false] at hx; (rcases hx with rfl | rfl | rfl) <;> simp)
      refine ⟨fun _ _ => hT, ?_⟩
      refine al_step0 (i := 8) rfl (by kernel_rfl) (op_storeB0 (j := 1) hS sz_28 rfl rfl rfl rfl) ?_
      clear hS
      rintro _ w hS; (try simp only [List.nil_append, List.cons_append, List.set] at hS)
      have hT := hT.back hS (by first | exact Le.refl _ | assumption) (fun x hx => by try simp only [List.take_succ_cons, List.take_zero, List.mem_cons, List.not_mem_nil, or_false] at hx; (rcases hx with rfl | rfl | rfl) <;> simp)
      refine ⟨fun _ _ => hT, ?_⟩
      refine al_step0 (i := 9) rfl (by kernel_rfl) (op_storeB0 (j := 0) hS sz_28 rfl rfl rfl rfl) ?_
      clear hS
      rintro _ w hS; (try simp only [List.nil_append, List.cons_append, List.set] at hS)
      refine ⟨no_need (by kernel_rfl), ?_⟩
      exact K3 _ _ _ _ (by kernel_rfl) (by exact ⟨b7, b8, o36, c36, o39, c39, G39, rfl, hl3x, (hR36.mono EInt.mono hf36).mono EInt.mono hl39, hR39.mono EInt.mono hf39, hS⟩) ((Sub.cons rfl (Sub.cons rfl (Sub.cons rfl (Sub.cons rfl (Sub.cons rfl (Sub.cons rfl Sub.nil)))))))
    ·
     skip
     refine wpOp_of_opk (i := 7) rfl ha (op_alloc hS el_28 rfl) ?_
     clear hS
     rintro _ w ⟨b8, rfl, hS⟩
     have hT := hT.back hS (by first | exact Le.refl _ | assumption) (fun x hx => by try simp only [List.take_succ_cons, List.take_zero, List.mem_cons, List.not_mem_nil, or_false] at hx; (rcases hx with rfl | rfl | rfl) <;> simp)
     refine ⟨fun _ _ => hT, ?_⟩
     refine al_at ?_ (ha.put (blt_lt rfl) _)
     refine al_two (i := 2) (j := 6) (by kernel_rfl) (fun a ha => ?_) (fun a ha => ?_)
     ·
      skip
      refine wpOp_of_opk (i := 2) rfl ha (op_call_fr hS cf_41 rfl (just_first_c _ _ hS.hold hE _ _ atoms rs h1 h2 hP _ _ l h5 ⟨_, _, _, rfl⟩)) ?_
      clear hS
      rintro v36 w ⟨F36, G36, hR36, hF36, hf36, hl36, hS⟩
      obtain ⟨o36, c36, rfl, _, _⟩ := hR36.elimN (byL_len _ _)
      have hT := hT.back hS (by first | exact Le.refl _ | assumption) (fun x hx => by try simp only [List.take_succ_cons, List.take_zero, List.mem_cons, List.not_mem_nil, or_false] at hx; (rcases hx with rfl | rfl | rfl) <;> simp)
      refine ⟨fun _ _ => hT, ?_⟩
      refine al_at ?_ (ha.put (blt_lt rfl) _)
      refine al_two (i := 5) (j := 6) (by kernel_rfl) (fun a ha => ?_) (fun a ha => ?_)
      ·
       skip
       refine wpOp_of_opk (i := 5) rfl ha (op_call_fr hS cf_19 rfl (just_Known_c _ _ hS.hold hE _ _ atoms rs (h1.mono hE hl36) (h2.mono ERule.mono hl36) hP _ _ l (h5.mono EStep.mono hl36) ⟨_, _, _, rfl⟩)) ?_
       clear hS
       rintro v39 w ⟨F39, G39, hR39, hF39, hf39, hl39, hS⟩
       obtain ⟨o39, c39, rfl, _, _⟩ := hR39.elimN (known_len _ _)
       have hl3x := hl36.trans hl39
       have hT := hT.back hS (by first | exact Le.refl _ | assumption) (fun x hx => by try simp only [List.take_succ_cons, List.take_zero, List.mem_cons, List.not_mem_nil, or_false] at hx; (rcases hx with rfl | rfl | rfl) <;> simp)
       refine ⟨fun _ _ => hT, ?_⟩
       refine al_at ?_ (ha.put (blt_lt rfl) _)
       refine al_step (i := 6) rfl (by kernel_rfl) rfl (op_alloc hS el_28 rfl) ?_
       clear hS
       rintro _ w ⟨b7, rfl, hS⟩
       have hT := hT.back hS (by first | exact Le.refl _ | assumption) (fun x hx => by try simp only [List.take_succ_cons, List.take_zero, List.mem_cons, List.not_mem_nil, or_false] at hx; (rcases hx with rfl | rfl | rfl) <;> simp)
       refine ⟨fun _ _ => hT, ?_⟩
       refine al_step0 (i := 8) rfl (by kernel_rfl) (op_storeB0 (j := 0) hS sz_28 rfl rfl rfl rfl) ?_
       clear hS
       rintro _ w hS; (try simp only [List.nil_append, List.cons_append, List.set] at hS)
       have hT := hT.back hS (by first | exact Le.refl _ | assumption) (fun x hx => by try simp only [List.take_succ_cons, List.take_zero, List.mem_cons, List.not_mem_nil, or_false] at hx; (rcases hx with rfl | rfl | rfl) <;> simp)
       refine ⟨fun _ _ => hT, ?_⟩
       refine al_step0 (i := 9) rfl (by kernel_rfl) (op_storeB0 (j := 1) hS sz_28 rfl rfl rfl rfl) ?_
       clear hS
       rintro _ w hS; (try simp only [List.nil_append, List.cons_append, List.set] at hS)
       refine ⟨no_need (by kernel_rfl), ?_⟩
       exact K3 _ _ _ _ (by kernel_rfl) (by exact ⟨b7, b8, o36, c36, o39, c39, G39, rfl, hl3x, (hR36.mono EInt.mono hf36).mono EInt.mono hl39, hR39.mono EInt.mono hf39, hS.perm (List.Perm.swap _ _ _)⟩) ((Sub.cons rfl (Sub.cons rfl (Sub.cons rfl (Sub.cons rfl (Sub.cons rfl (Sub.cons rfl Sub.nil)))))))
      ·
       skip
       refine wpOp_of_opk (i := 6) rfl ha (op_alloc hS el_28 rfl) ?_
       clear hS
       rintro _ w ⟨b7, rfl, hS⟩
       have hT := hT.back hS (by first | exact Le.refl _ | assumption) (fun x hx => by try simp only [List.take_succ_cons, List.take_zero, List.mem_cons, List.not_mem_nil, or_false] at hx; (rcases hx with rfl | rfl | rfl) <;> simp)
       refine ⟨fun _ _ => hT, ?_⟩
       refine al_at ?_ (ha.put (blt_lt rfl) _)
       refine al_step (i := 5) rfl (by kernel_rfl) rfl (op_call_fr hS cf_19 rfl (just_Known_c _ _ hS.hold hE _ _ atoms rs (h1.mono hE hl36) (h2.mono ERule.mono hl36) hP _ _ l (h5.mono EStep.mono hl36) ⟨_, _, _, rfl⟩)) ?_
       clear hS
       rintro v39 w ⟨F39, G39, hR39, hF39, hf39, hl39, hS⟩
       obtain ⟨o39, c39, rfl, _, _⟩ := hR39.elimN (known_len _ _)
       have hl3x := hl36.trans hl39
       have hT := hT.back hS (by first | exact Le.refl _ | assumption) (fun x hx => by try simp only [List.take_succ_cons, List.take_zero, List.mem_cons, List.not_mem_nil, or_false] at hx; (rcases hx with rfl | rfl | rfl) <;> simp)
       refine ⟨fun _ _ => hT, ?_⟩
       refine al_step0 (i := 8) rfl (by kernel_rfl) (op_storeB0 (j := 0) hS sz_28 rfl rfl rfl rfl) ?_
       clear hS
       rintro _ w hS; (try simp only [List.nil_append, List.cons_append, List.set] at hS)
       have hT := hT.back hS (by first | exact Le.refl _ | assumption) (fun x hx => by try simp only [List.take_succ_cons, List.take_zero, List.mem_cons, List.not_mem_nil, or_false] at hx; (rcases hx with rfl | rfl | rfl) <;> simp)
       refine ⟨fun _ _ => hT, ?_⟩
       refine al_step0 (i := 9) rfl (by kernel_rfl) (op_storeB0 (j := 1) hS sz_28 rfl rfl rfl rfl) ?_
       clear hS
       rintro _ w hS; (try simp only [List.nil_append, List.cons_append, List.set] at hS)
       refine ⟨no_need (by kernel_rfl), ?_⟩
       exact K3 _ _ _ _ (by kernel_rfl) (by exact ⟨b7, b8, o36, c36, o39, c39, G39, rfl, hl3x, (hR36.mono EInt.mono hf36).mono EInt.mono hl39, hR39.mono EInt.mono hf39, hS.perm (List.Perm.swap _ _ _)⟩) ((Sub.cons rfl (Sub.cons rfl (Sub.cons rfl (Sub.cons rfl (Sub.cons rfl (Sub.cons rfl Sub.nil)))))))
     ·
      skip
      refine wpOp_of_opk (i := 6) rfl ha (op_alloc hS el_28 rfl) ?_
      clear hS
      rintro _ w ⟨b7, rfl, hS⟩
      have hT := hT.back hS (by first | exact Le.refl _ | assumption) (fun x hx => by try simp only [List.take_succ_cons, List.take_zero, List.mem_cons, List.not_mem_nil, or_false] at hx; (rcases hx with rfl | rfl | rfl) <;> simp)
      refine ⟨fun _ _ => hT, ?_⟩
      refine al_at ?_ (ha.put (blt_lt rfl) _)
      refine al_step (i := 2) rfl (by kernel_rfl) rfl (op_call_fr hS cf_41 rfl (just_first_c _ _ hS.hold hE _ _ atoms rs h1 h2 hP _ _ l h5 ⟨_, _, _, rfl⟩)) ?_
      clear hS
      rintro v36 w ⟨F36, G36, hR36, hF36, hf36, hl36, hS⟩
      obtain ⟨o36, c36, rfl, _, _⟩ := hR36.elimN (byL_len _ _)
      have hT := hT.back hS (by first | exact Le.refl _ | assumption) (fun x hx => by try simp only [List.take_succ_cons, List.take_zero, List.mem_cons, List.not_mem_nil, or_false] at hx; (rcases hx with rfl | rfl | rfl) <;> simp)
      refine ⟨fun _ _ => hT, ?_⟩
      refine al_step (i := 5) rfl (by kernel_rfl) rfl (op_call_fr hS cf_19 rfl (just_Known_c _ _ hS.hold hE _ _ atoms rs (h1.mono hE hl36) (h2.mono ERule.mono hl36) hP _ _ l (h5.mono EStep.mono hl36) ⟨_, _, _, rfl⟩)) ?_
      clear hS
      rintro v39 w ⟨F39, G39, hR39, hF39, hf39, hl39, hS⟩
      obtain ⟨o39, c39, rfl, _, _⟩ := hR39.elimN (known_len _ _)
      have hl3x := hl36.trans hl39
      have hT := hT.back hS (by first | exact Le.refl _ | assumption) (fun x hx => by try simp only [List.take_succ_cons, List.take_zero, List.mem_cons, List.not_mem_nil, or_false] at hx; (rcases hx with rfl | rfl | rfl) <;> simp)
      refine ⟨fun _ _ => hT, ?_⟩
      refine al_step0 (i := 8) rfl (by kernel_rfl) (op_storeB0 (j := 0) hS sz_28 rfl rfl rfl rfl) ?_
      clear hS
      rintro _ w hS; (try simp only [List.nil_append, List.cons_append, List.set] at hS)
      have hT := hT.back hS (by first | exact Le.refl _ | assumption) (fun x hx => by try simp only [List.take_succ_cons, List.take_zero, List.mem_cons, List.not_mem_nil, or_false] at hx; (rcases hx with rfl | rfl | rfl) <;> simp)
      refine ⟨fun _ _ => hT, ?_⟩
      refine al_step0 (i := 9) rfl (by kernel_rfl) (op_storeB0 (j := 1) hS sz_28 rfl rfl rfl rfl) ?_
      clear hS
      rintro _ w hS; (try simp only [List.nil_append, List.cons_append, List.set] at hS)
      refine ⟨no_need (by kernel_rfl), ?_⟩
      exact K3 _ _ _ _ (by kernel_rfl) (by exact ⟨b7, b8, o36, c36, o39, c39, G39, rfl, hl3x, (hR36.mono EInt.mono hf36).mono EInt.mono hl39, hR39.mono EInt.mono hf39, hS.perm (List.Perm.swap _ _ _)⟩) ((Sub.cons rfl (Sub.cons rfl (Sub.cons rfl (Sub.cons rfl (Sub.cons rfl (Sub.cons rfl Sub.nil)))))))
   ·
    skip
    have hTo := hT
    clear hS hT
    rintro e w ⟨b7, b8, o36, c36, o39, c39, Gd, rfl, hld, hBy, hKn, hS⟩
    have hT := hTo.back hS (by first | exact Le.refl _ | assumption) (fun x hx => by try simp only [List.take_succ_cons, List.take_zero, List.mem_cons, List.not_mem_nil, or_false] at hx; (rcases hx with rfl | rfl | rfl) <;> simp)
    clear hTo
    refine al_done (by kernel_rfl) ?_
    refine pq_then ?_
    refine cw_seq ?_
    refine cw_seq ?_
    obtain ⟨hoB, _, hcB, hbB⟩ := hBy.val haa.1 (by rw [byL_len]; exact haa.2)
    rw [byL_val haa.1 haa.2] at hcB
    refine cw_region ?_
    refine ol_load rfl (op_load1 one_28 rfl (fun w hw => (hw.bcell0 (i := 1) rfl).trans rfl)) hS ?_
    refine ol_pure rfl (op_move rfl) ?_
    refine ol_pure rfl (op_indexAddr sl_28 rfl rfl (by omega) (by omega) hoB) ?_
    refine ol_load rfl (op_load1 one_3 rfl (fun w hw => hw.gcell hcB)) hS ?_
    refine ol_pure rfl (op_lss rfl rfl) ?_
    refine ol_nil ?_
    refine pq_then ?_
    refine cw_cond rfl (fun h44 => ?_) (fun h44 => ?_)
    ·
     skip
     try simp only [decide_eq_true_eq, decide_eq_false_iff_not, Bool.not_eq_true', Bool.not_eq_false', Bool.not_eq_eq_eq_not, Bool.not_true, Bool.not_false] at h44
     refine cw_seq ?_
     refine cw_region ?_
     refine ol_load rfl (op_loadN agg_34 rfl (by rfl) (fun w hw k u hk => (hw.bcell (i := 3) rfl).trans hk)) hS ?_
     refine ol_step0  (op_storeN (j := 2) hS sz_34 rfl rfl rfl rfl rfl (by simp [Value.oneCell'])) ?_
     clear hS
     rintro _ w hS; (try simp only [List.nil_append, List.cons_append, List.set] at hS)
     refine ol_nil ?_
     refine pq_then ?_
     refine cw_ret ?_
     refine pq_ret ?_
     refine retN rfl agg_34 rfl (by rfl) (fun k u hk => (hS.bcell (i := 2) rfl).trans hk) ?_
     refine hS.rt _ ⟨_, _, rfl, ?_, ?_⟩ <;> rw [forI, if_neg (by omega), if_pos (by omega)]
     · exact h5.mono EStep.mono hld
     · exact h6.mono EInt.mono hld
    ·
     skip
     try simp only [decide_eq_true_eq, decide_eq_false_iff_not, Bool.not_eq_true', Bool.not_eq_false', Bool.not_eq_eq_eq_not, Bool.not_true, Bool.not_false] at h44
     have hone : (∀ x ∈ [aa], 0 ≤ x ∧ x < (atoms.length : Int)) ∧ ∀ x ∈ [aa], 0 ≤ byI l x := ⟨one_all haa, one_all (by omega)⟩
     have hfo : forI atoms.length rs (l, hs) aa = (partI l (needI atoms.length rs l aa), []) := by rw [forI, if_neg (by omega), if_neg (by omega)]
     refine cw_skip ?_
     refine pq_then ?_
     refine cw_seq ?_
     refine cw_region ?_
     refine ol_pure rfl (op_fieldAddr fld_34_0 rfl) ?_
     refine ol_load rfl (op_load1 one_32 rfl (fun w hw => (hw.bcell (i := 3) rfl).trans rfl)) hS ?_
     refine ol_pure rfl (op_len sl_32 rfl rfl) ?_
     refine ol_step rfl (op_makeSlice (n := l.length) hS sl_49 el_4 rfl rfl rfl (by omega) (by unfold maxLen; omega)) ?_
     clear hS
     rintro _ w ⟨on, rfl, hS⟩
     refine ol_step rfl (op_alloc hS el_49 rfl) ?_
     clear hS
     rintro _ w ⟨b9, rfl, hS⟩
     refine ol_step0  (op_storeB0 (j := 0) hS sz_49 rfl rfl rfl rfl) ?_
     clear hS
     rintro _ w hS; (try simp only [List.nil_append, List.cons_append, List.set] at hS)
     refine ol_nil ?_
     refine pq_then ?_
     refine cw_seq ?_
     replace hS := hS.perm ((List.Perm.swap _ _ _).trans (((List.Perm.swap _ _ _).cons _).cons _))
     rw [show List.replicate l.length (Value.bool false) = (List.replicate l.length false).map Value.bool from by rw [List.map_replicate]] at hS
     have hnl : (List.replicate l.length false).length = l.length := by simp
     refine cw_region ?_
     refine ol_pure rfl (op_makeFunc rfl rfl) ?_
     refine ol_pure rfl (op_assign rfl) ?_
     refine ol_nil ?_
     refine pq_then ?_
     refine cw_seq ?_
     refine cw_region ?_
     refine ol_pure rfl (op_move rfl) ?_
     refine ol_pure rfl (op_move rfl) ?_
     refine ol_step rfl (op_buildSlice (el := 3) (is := [0]) (xs := [.tmp 52]) (sz := 1) (cs := [.int .i64 aa]) hS rfl rfl (fun w => by kernel_rfl) rfl (by decide)) ?_
     clear hS
     rintro _ w ⟨s53, rfl, hS⟩
     obtain ⟨Ge, hle, hSe, hRe⟩ := SS.give' [aa] [] EInt.mono hS (by decide) (oneInt _ _ (by omega)) rfl
     clear hS
     have hS := hSe
     clear hSe
     simp only [List.nil_append] at hS
     refine ol_step rfl (op_callvu cf_42 (fs := []) rfl rfl (need_pre [] l (List.replicate l.length false) l.length (by simp [markI_len, hnl]) (byL atoms.length l) (hBy.mono EInt.mono hle) _ [aa] (hRe) (need_in hone.1 hone.2 rfl) hS)) ?_
     clear hS
     rintro _ w ⟨rfl, hS⟩; simp only [List.nil_append] at hS
     refine ol_nil ?_
     refine pq_then ?_
     refine cw_seq ?_
     refine cw_seq ?_
     refine cw_region ?_
     refine ol_pure rfl (op_fieldAddr fld_34_0 rfl) ?_
     refine ol_load rfl (op_load1 one_32 rfl (fun w hw => (hw.bcell (i := 5) rfl).trans rfl)) hS ?_
     refine ol_pure rfl (op_len sl_32 rfl rfl) ?_
     refine ol_pure rfl (op_sub rfl rfl (by omega) (by omega)) ?_
     refine ol_step rfl (op_alloc hS el_3 rfl) ?_
     clear hS
     rintro _ w ⟨b11, rfl, hS⟩
     refine ol_step0  (op_storeB0 (j := 0) hS sz_3 rfl rfl rfl rfl) ?_
     clear hS
     rintro _ w hS; (try simp only [List.nil_append, List.cons_append, List.set] at hS)
     refine ol_nil ?_
     refine pq_then ?_
     refine cw_block ?_
     refine cw_loop (fun e w n => ∃ (k : Nat) (nd : List Bool) (b11 : Nat) (Gk : GH), e = [(3, .pointer (some ⟨b3, 0, none⟩)), (4, .pointer (some ⟨b4, 0, none⟩)), (6, .pointer (some ⟨res, 0, none⟩)), (7, .pointer (some ⟨b7, 0, none⟩)), (8, .pointer (some ⟨b8, 0, none⟩)), (9, .pointer (some ⟨b9, 0, none⟩)), (10, .func (.func 42) #[] #[.pointer (some ⟨b9, 0, none⟩), .pointer (some ⟨b7, 0, none⟩)]), (11, .pointer (some ⟨b11, 0, none⟩))] ∧ k ≤ l.length ∧ k = n ∧ nd.length = l.length ∧ needI atoms.length rs l aa = forN rs l (knownI atoms.length l) k nd ∧ Le Gd Gk ∧ SS G w0 Gk [.blk b11 3 [.int .i64 ((k : Nat) - 1)], .row on l.length l.length 4 1 (nd.map Value.bool), .blk b9 49 [.slice on l.length l.length], .blk b7 28 [.slice o36 atoms.length c36], .blk b8 28 [.slice o39 atoms.length c39], .blk res 34 [.slice none 0 0, .slice none 0 0], .blk b4 34 [.slice oP l.length cP, .slice oh hs.length ch], .blk b3 26 [.slice oA atoms.length cA, .slice oR rs.length cR]] w) _ _ (by exact ⟨l.length, _, b11, Ge, rfl, Nat.le_refl _, rfl, by rw [markI_len]; exact hnl, rfl, hle, hS⟩) ((Sub.cons rfl (Sub.cons rfl (Sub.cons rfl (Sub.cons rfl (Sub.cons rfl (Sub.cons rfl (Sub.cons rfl (Sub.cons rfl Sub.nil))))))))) ?_
     clear hnl
     clear hS
     rintro e w n ⟨k, nd, b11, Gk, rfl, hk, rfl, hnl, hne, hdk, hS⟩
     have hlk := hld.trans hdk
     refine cw_seq ?_
     refine cw_seq ?_
     refine cw_region ?_
     refine ol_load rfl (op_load1 one_3 rfl (fun w hw => (hw.bcell0 (i := 0) rfl).trans rfl)) hS ?_
     refine ol_pure rfl (op_geq rfl rfl) ?_
     refine ol_nil ?_
     refine pq_then ?_
     refine cw_cond rfl (fun h60 => ?_) (fun h60 => ?_)
     ·
      skip
      try simp only [decide_eq_true_eq, decide_eq_false_iff_not, Bool.not_eq_true', Bool.not_eq_false', Bool.not_eq_eq_eq_not, Bool.not_true, Bool.not_false] at h60
      obtain ⟨i, rfl⟩ : ∃ i, k = i + 1 := ⟨k - 1, by omega⟩
      rw [show ((i + 1 : Nat) : Int) - 1 = (i : Nat) from by omega] at hS ⊢
      have hlt : i < l.length := by omega
      obtain ⟨hoP, _, _, ⟨vk, rfl, hvk, hrk⟩, hcells⟩ := h5.el hlt
      obtain ⟨ov, cv, rfl, _, _⟩ := hvk.elim
      have hvle := hvk.le
      have hcm : (nd.map Value.bool)[i * 1]? = some (.bool nd[i]) := by simp [show i < nd.length by omega]
      have hoN := (hS.news (j := 1) rfl _ _ hcm).1
      have hgd : nd.getD i false = nd[i] := by simp [show i < nd.length by omega]
      refine cw_skip ?_
      refine pq_then ?_
      refine cw_seq ?_
      refine cw_block ?_
      refine cw_seq ?_
      refine cw_region ?_
      refine ol_pure rfl (op_fieldAddr fld_34_0 rfl) ?_
      refine ol_load rfl (op_load1 one_32 rfl (fun w hw => (hw.bcell (i := 6) rfl).trans rfl)) hS ?_
      refine ol_load rfl (op_load1 one_3 rfl (fun w hw => (hw.bcell0 (i := 0) rfl).trans rfl)) hS ?_
      refine ol_pure rfl (op_indexN sl_32 rfl rfl (by omega) hoP) ?_
      refine ol_load rfl (op_loadN agg_37 rfl (by rfl) (fun w hw k u hk => hw.gcell (hlk.cell (hcells k u hk)))) hS ?_
      refine ol_step rfl (op_alloc hS el_37 rfl) ?_
      clear hS
      rintro _ w ⟨b12, rfl, hS⟩
      refine ol_step0  (op_storeN (j := 0) hS sz_37 rfl rfl rfl rfl rfl (by simp [Value.oneCell'])) ?_
      clear hS
      rintro _ w hS; (try simp only [List.nil_append, List.cons_append, List.set] at hS)
      refine ol_nil ?_
      refine pq_then ?_
      refine cw_seq ?_
      refine cw_seq ?_
      refine cw_region ?_
      refine ol_load rfl (op_load1 one_49 rfl (fun w hw => (hw.bcell0 (i := 3) rfl).trans rfl)) hS ?_
      refine ol_load rfl (op_load1 one_3 rfl (fun w hw => (hw.bcell0 (i := 1) rfl).trans rfl)) hS ?_
      refine ol_pure rfl (op_indexN sl_49 rfl rfl (by omega) hoN) ?_
      refine ol_load rfl (op_load1 one_4 rfl (fun w hw => hw.rcell (i := 2) rfl hcm)) hS ?_
      refine ol_pure rfl (op_not rfl) ?_
      refine ol_nil ?_
      refine pq_then ?_
      refine cw_cond rfl (fun h72 => ?_) (fun h72 => ?_)
      ·
       skip
       try simp only [decide_eq_true_eq, decide_eq_false_iff_not, Bool.not_eq_true', Bool.not_eq_false', Bool.not_eq_eq_eq_not, Bool.not_true, Bool.not_false] at h72
       have hskip := forN_skip (rs := rs) (m := (knownI atoms.length l)) hlt (hgd.trans h72)
       refine cw_exit ?_
       refine pq_exit ?_
       refine pq_in_exit ?_
       refine pq_then ?_
       refine cw_seq ?_
       refine cw_seq ?_
       refine cw_region ?_
       refine ol_load rfl (op_load1 one_3 rfl (fun w hw => (hw.bcell0 (i := 1) rfl).trans rfl)) hS ?_
       refine ol_nil ?_
       refine pq_then ?_
       refine cw_region ?_
       refine ol_step rfl (op_alloc hS el_3 rfl) ?_
       clear hS
       rintro _ w ⟨b11n, rfl, hS⟩
       refine ol_step0  (op_storeB0 (j := 0) hS sz_3 rfl rfl rfl rfl) ?_
       clear hS
       rintro _ w hS; (try simp only [List.nil_append, List.cons_append, List.set] at hS)
       refine ol_nil ?_
       refine pq_then ?_
       refine cw_region ?_
       refine ol_load rfl (op_load1 one_3 rfl (fun w hw => (hw.bcell0 (i := 0) rfl).trans rfl)) hS ?_
       refine ol_pure rfl (op_sub rfl rfl (by omega) (by omega)) ?_
       refine ol_step0  (op_storeB0 (j := 0) hS sz_3 rfl rfl rfl rfl) ?_
       clear hS
       rintro _ w hS; (try simp only [List.nil_append, List.cons_append, List.set] at hS)
       refine ol_nil ?_
       refine pq_loop _ _ (by exact (by
           replace hS := SS.drop [_] (SS.drop [_] hS)
           exact ⟨i, nd, b11n, Gk, rfl, by omega, rfl, hnl, by rw [hne, hskip], hdk, hS⟩)) ((Sub.cons rfl (Sub.cons rfl (Sub.cons rfl (Sub.cons rfl (Sub.cons rfl (Sub.cons rfl (Sub.cons rfl (Sub.cons rfl Sub.nil))))))))) (by omega)
      ·
       skip
       try simp only [decide_eq_true_eq, decide_eq_false_iff_not, Bool.not_eq_true', Bool.not_eq_false', Bool.not_eq_eq_eq_not, Bool.not_true, Bool.not_false] at h72
       have hdo := forN_do (rs := rs) (m := (knownI atoms.length l)) hlt (hgd.trans h72)
       refine cw_skip ?_
       refine pq_then ?_
       refine cw_seq ?_
       refine cw_seq ?_
       refine cw_region ?_
       refine ol_pure rfl (op_fieldAddr fld_37_0 rfl) ?_
       refine ol_load rfl (op_load1 one_3 rfl (fun w hw => (hw.bcell (i := 0) rfl).trans rfl)) hS ?_
       refine ol_pure rfl (op_geq rfl rfl) ?_
       refine ol_nil ?_
       refine pq_then ?_
       refine cw_cond rfl (fun h75 => ?_) (fun h75 => ?_)
       ·
        skip
        try simp only [decide_eq_true_eq, decide_eq_false_iff_not, Bool.not_eq_true', Bool.not_eq_false', Bool.not_eq_eq_eq_not, Bool.not_true, Bool.not_false] at h75
        obtain ⟨hrl, hrb⟩ := hL _ (List.getElem_mem hlt) h75
        have hrok := (hP.rule _ (List.getElem_mem hrl)).1
        obtain ⟨hoR, _, _, ⟨p, q, rfl, hp, hq, hhd⟩, hcellR⟩ := h2.el hrl
        obtain ⟨op, cp, rfl, _, _⟩ := hp.elim
        obtain ⟨oq, cq, rfl, _, _⟩ := hq.elim
        rw [leansI_rule h75 hrl, markI_app] at hdo
        refine cw_seq ?_
        refine cw_region ?_
        refine ol_pure rfl (op_move rfl) ?_
        refine ol_pure rfl (op_fieldAddr fld_26_1 rfl) ?_
        refine ol_load rfl (op_load1 one_22 rfl (fun w hw => (hw.bcell (i := 8) rfl).trans rfl)) hS ?_
        refine ol_pure rfl (op_fieldAddr fld_37_0 rfl) ?_
        refine ol_load rfl (op_load1 one_3 rfl (fun w hw => (hw.bcell (i := 0) rfl).trans rfl)) hS ?_
        refine ol_pure rfl (op_indexAddr sl_22 rfl rfl (by omega) (by omega) hoR) ?_
        refine ol_pure rfl (op_fieldAddr fld_30_1 rfl) ?_
        refine ol_load rfl (op_load1 one_28 rfl (fun w hw => hw.gcell (hlk.cell (hcellR 1 _ rfl)))) hS ?_
        refine ol_step rfl (op_callvu cf_42 (fs := []) rfl rfl (need_pre [_, _] l nd l.length (by simp [markI_len, hnl]) (byL atoms.length l) (hBy.mono EInt.mono hdk) _ rs[l[i].rule.toNat].pos (hp.mono EInt.mono hlk) (need_in hrok.2.1 (fun x hx => hrb x (List.mem_append.2 (.inl hx))) rfl) hS)) ?_
        clear hS
        rintro _ w ⟨rfl, hS⟩; simp only [List.cons_append, List.nil_append] at hS
        refine ol_nil ?_
        refine pq_then ?_
        refine cw_seq ?_
        refine cw_region ?_
        refine ol_pure rfl (op_move rfl) ?_
        refine ol_pure rfl (op_fieldAddr fld_26_1 rfl) ?_
        refine ol_load rfl (op_load1 one_22 rfl (fun w hw => (hw.bcell (i := 8) rfl).trans rfl)) hS ?_
        refine ol_pure rfl (op_fieldAddr fld_37_0 rfl) ?_
        refine ol_load rfl (op_load1 one_3 rfl (fun w hw => (hw.bcell (i := 0) rfl).trans rfl)) hS ?_
        refine ol_pure rfl (op_indexAddr sl_22 rfl rfl (by omega) (by omega) hoR) ?_
        refine ol_pure rfl (op_fieldAddr fld_30_2 rfl) ?_
        refine ol_load rfl (op_load1 one_28 rfl (fun w hw => hw.gcell (hlk.cell (hcellR 2 _ rfl)))) hS ?_
        refine ol_step rfl (op_callvu cf_42 (fs := []) rfl rfl (need_pre [_, _] l (markI l nd rs[l[i].rule.toNat].pos) l.length (by simp [markI_len, hnl]) (byL atoms.length l) (hBy.mono EInt.mono hdk) _ rs[l[i].rule.toNat].neg (hq.mono EInt.mono hlk) (need_in hrok.2.2 (fun x hx => hrb x (List.mem_append.2 (.inr hx))) rfl) hS)) ?_
        clear hS
        rintro _ w ⟨rfl, hS⟩; simp only [List.cons_append, List.nil_append] at hS
        refine ol_nil ?_
        refine pq_then ?_
        refine cw_exit ?_
        refine pq_exit ?_
        refine pq_in_exit ?_
        refine pq_then ?_
        refine cw_seq ?_
        refine cw_seq ?_
        refine cw_region ?_
        refine ol_load rfl (op_load1 one_3 rfl (fun w hw => (hw.bcell0 (i := 1) rfl).trans rfl)) hS ?_
        refine ol_nil ?_
        refine pq_then ?_
        refine cw_region ?_
        refine ol_step rfl (op_alloc hS el_3 rfl) ?_
        clear hS
        rintro _ w ⟨b11n, rfl, hS⟩
        refine ol_step0  (op_storeB0 (j := 0) hS sz_3 rfl rfl rfl rfl) ?_
        clear hS
        rintro _ w hS; (try simp only [List.nil_append, List.cons_append, List.set] at hS)
        refine ol_nil ?_
        refine pq_then ?_
        refine cw_region ?_
        refine ol_load rfl (op_load1 one_3 rfl (fun w hw => (hw.bcell0 (i := 0) rfl).trans rfl)) hS ?_
        refine ol_pure rfl (op_sub rfl rfl (by omega) (by omega)) ?_
        refine ol_step0  (op_storeB0 (j := 0) hS sz_3 rfl rfl rfl rfl) ?_
        clear hS
        rintro _ w hS; (try simp only [List.nil_append, List.cons_append, List.set] at hS)
        refine ol_nil ?_
        refine pq_loop _ _ (by exact (by
            replace hS := SS.drop [_] (SS.drop [_] hS)
            exact ⟨i, _, b11n, Gk, rfl, by omega, rfl, by rw [markI_len, markI_len]; exact hnl, by rw [hne, hdo], hdk, hS⟩)) ((Sub.cons rfl (Sub.cons rfl (Sub.cons rfl (Sub.cons rfl (Sub.cons rfl (Sub.cons rfl (Sub.cons rfl (Sub.cons rfl Sub.nil))))))))) (by omega)
       ·
        skip
        try simp only [decide_eq_true_eq, decide_eq_false_iff_not, Bool.not_eq_true', Bool.not_eq_false', Bool.not_eq_eq_eq_not, Bool.not_true, Bool.not_false] at h75
        rw [leansI_set (by omega)] at hdo
        refine cw_skip ?_
        refine pq_then ?_
        refine cw_seq ?_
        refine cw_region ?_
        refine ol_pure rfl (op_makeFunc rfl rfl) ?_
        refine ol_pure rfl (op_assign rfl) ?_
        refine ol_nil ?_
        refine pq_then ?_
        refine cw_seq ?_
        refine cw_region ?_
        refine ol_pure rfl (op_makeFunc rfl rfl) ?_
        refine ol_pure rfl (op_assign rfl) ?_
        refine ol_nil ?_
        refine pq_then ?_
        refine cw_seq ?_
        refine cw_region ?_
        refine ol_pure rfl (op_fieldAddr fld_37_1 rfl) ?_
        refine ol_load rfl (op_load1 one_28 rfl (fun w hw => (hw.bcell (i := 0) rfl).trans rfl)) hS ?_
        refine ol_pure rfl (op_len sl_28 rfl rfl) ?_
        refine ol_pure rfl (op_move rfl) ?_
        refine ol_nil ?_
        refine pq_then ?_
        refine cw_block ?_
        refine cw_loop (fun e w n => ∃ (j : Nat) (Gj : GH), e = [(3, .pointer (some ⟨b3, 0, none⟩)), (4, .pointer (some ⟨b4, 0, none⟩)), (6, .pointer (some ⟨res, 0, none⟩)), (7, .pointer (some ⟨b7, 0, none⟩)), (8, .pointer (some ⟨b8, 0, none⟩)), (9, .pointer (some ⟨b9, 0, none⟩)), (10, .func (.func 42) #[] #[.pointer (some ⟨b9, 0, none⟩), .pointer (some ⟨b7, 0, none⟩)]), (11, .pointer (some ⟨b11, 0, none⟩)), (13, .func (.func 43) #[] #[.pointer (some ⟨b12, 0, none⟩)]), (14, .func (.func 45) #[] #[.pointer (some ⟨b8, 0, none⟩), .pointer (some ⟨b7, 0, none⟩), .pointer (some ⟨b11, 0, none⟩)]), (97, .slice ov l[i].atoms.length cv), (98, .int .i64 (l[i].atoms.length : Nat)), (99, .int .i64 (j : Nat))] ∧ j ≤ l[i].atoms.length ∧ n = l[i].atoms.length - j ∧ Le Gk Gj ∧ SS G w0 Gj [.blk b12 37 [.int .i64 l[i].rule, .slice ov l[i].atoms.length cv], .blk b11 3 [.int .i64 ((i : Nat))], .row on l.length l.length 4 1 ((markI l nd ((l[i].atoms.take j).flatMap (atomR rs l (knownI atoms.length l) i l[i].atoms))).map Value.bool), .blk b9 49 [.slice on l.length l.length], .blk b7 28 [.slice o36 atoms.length c36], .blk b8 28 [.slice o39 atoms.length c39], .blk res 34 [.slice none 0 0, .slice none 0 0], .blk b4 34 [.slice oP l.length cP, .slice oh hs.length ch], .blk b3 26 [.slice oA atoms.length cA, .slice oR rs.length cR]] w) _ _ (by exact ⟨0, Gk, rfl, Nat.zero_le _, rfl, Le.refl _, hS⟩) ((Sub.cons rfl (Sub.cons rfl (Sub.cons rfl (Sub.cons rfl (Sub.cons rfl (Sub.cons rfl (Sub.cons rfl (Sub.cons rfl (Sub.cons rfl (Sub.cons rfl (Sub.cons rfl (Sub.cons rfl (Sub.cons rfl Sub.nil)))))))))))))) ?_
        clear hS
        rintro e w n ⟨j, Gj, rfl, hj, rfl, hkk, hS⟩
        refine cw_seq ?_
        refine cw_region ?_
        refine ol_pure rfl (op_lss rfl rfl) ?_
        refine ol_nil ?_
        refine pq_then ?_
        refine cw_seq ?_
        refine cw_cond rfl (fun h100 => ?_) (fun h100 => ?_)
        ·
         skip
         try simp only [decide_eq_true_eq, decide_eq_false_iff_not, Bool.not_eq_true', Bool.not_eq_false', Bool.not_eq_eq_eq_not, Bool.not_true, Bool.not_false] at h100
         have hjl : j < l[i].atoms.length := by omega
         obtain ⟨hoV, hcV, hbV⟩ := hvk.int hjl
         refine cw_skip ?_
         refine pq_then ?_
         refine cw_seq ?_
         refine cw_block ?_
         refine cw_seq ?_
         refine cw_region ?_
         refine ol_pure rfl (op_indexN sl_28 rfl rfl (by omega) hoV) ?_
         refine ol_load rfl (op_load1 one_3 rfl (fun w hw => hw.gcell ((hlk.trans hkk).cell hcV))) hS ?_
         refine ol_pure rfl (op_assign rfl) ?_
         refine ol_nil ?_
         refine pq_then ?_
         refine cw_seq ?_
         refine cw_region ?_
         refine ol_load rfl (op_loadN agg_26 rfl (by rfl) (fun w hw k u hk => (hw.bcell (i := 8) rfl).trans hk)) hS ?_
         refine ol_pure rfl (op_move rfl) ?_
         refine ol_step rfl (op_call_fr hS cf_48 rfl (ground_Of_c _ _ hS.hold hE _ _ atoms rs (h1.mono hE (hlk.trans hkk)) (h2.mono ERule.mono (hlk.trans hkk)) hP l[i].atoms[j])) ?_
         clear hS
         rintro v105 w ⟨F105, Gf, hR105, hF105, hf105, hl105, hS⟩
         obtain ⟨o105, c105, rfl, _, _⟩ := hR105.elim
         have hOf := hR105.mono EInt.mono hf105
         have hOle := hOf.le
         have hlf := (hlk.trans hkk).trans hl105
         have hdf := (hdk.trans hkk).trans hl105
         refine ol_pure rfl (op_len sl_28 rfl rfl) ?_
         refine ol_pure rfl (op_move rfl) ?_
         refine ol_nil ?_
         refine pq_then ?_
         refine cw_block ?_
         refine cw_loop (fun e w n => ∃ (q : Nat), e = [(3, .pointer (some ⟨b3, 0, none⟩)), (4, .pointer (some ⟨b4, 0, none⟩)), (6, .pointer (some ⟨res, 0, none⟩)), (7, .pointer (some ⟨b7, 0, none⟩)), (8, .pointer (some ⟨b8, 0, none⟩)), (9, .pointer (some ⟨b9, 0, none⟩)), (10, .func (.func 42) #[] #[.pointer (some ⟨b9, 0, none⟩), .pointer (some ⟨b7, 0, none⟩)]), (11, .pointer (some ⟨b11, 0, none⟩)), (13, .func (.func 43) #[] #[.pointer (some ⟨b12, 0, none⟩)]), (14, .func (.func 45) #[] #[.pointer (some ⟨b8, 0, none⟩), .pointer (some ⟨b7, 0, none⟩), .pointer (some ⟨b11, 0, none⟩)]), (97, .slice ov l[i].atoms.length cv), (98, .int .i64 (l[i].atoms.length : Nat)), (99, .int .i64 (j : Nat)), (105, .slice o105 (ofI rs l[i].atoms[j]).length c105), (106, .int .i64 ((ofI rs l[i].atoms[j]).length : Nat)), (107, .int .i64 (q : Nat))] ∧ q ≤ (ofI rs l[i].atoms[j]).length ∧ n = (ofI rs l[i].atoms[j]).length - q ∧ SS G w0 Gf [.blk b12 37 [.int .i64 l[i].rule, .slice ov l[i].atoms.length cv], .blk b11 3 [.int .i64 ((i : Nat))], .row on l.length l.length 4 1 ((markI l nd ((l[i].atoms.take j).flatMap (atomR rs l (knownI atoms.length l) i l[i].atoms) ++ ((ofI rs l[i].atoms[j]).take q).flatMap (reasR rs l (knownI atoms.length l) i l[i].atoms))).map Value.bool), .blk b9 49 [.slice on l.length l.length], .blk b7 28 [.slice o36 atoms.length c36], .blk b8 28 [.slice o39 atoms.length c39], .blk res 34 [.slice none 0 0, .slice none 0 0], .blk b4 34 [.slice oP l.length cP, .slice oh hs.length ch], .blk b3 26 [.slice oA atoms.length cA, .slice oR rs.length cR]] w) _ _ (by exact ⟨0, rfl, Nat.zero_le _, rfl, by rw [show (((ofI rs l[i].atoms[j]).take 0).flatMap (reasR rs l (knownI atoms.length l) i l[i].atoms)) = [] from rfl, List.append_nil]; exact hS⟩) ((Sub.cons rfl (Sub.cons rfl (Sub.cons rfl (Sub.cons rfl (Sub.cons rfl (Sub.cons rfl (Sub.cons rfl (Sub.cons rfl (Sub.cons rfl (Sub.cons rfl (Sub.cons rfl (Sub.cons rfl (Sub.cons rfl (Sub.cons rfl (Sub.cons rfl (Sub.cons rfl Sub.nil))))))))))))))))) ?_
         clear hS
         rintro e w n ⟨q, rfl, hq0, rfl, hS⟩
         refine cw_seq ?_
         refine cw_region ?_
         refine ol_pure rfl (op_lss rfl rfl) ?_
         refine ol_nil ?_
         refine pq_then ?_
         refine cw_seq ?_
         refine cw_cond rfl (fun h108 => ?_) (fun h108 => ?_)
         ·
          skip
          try simp only [decide_eq_true_eq, decide_eq_false_iff_not, Bool.not_eq_true', Bool.not_eq_false', Bool.not_eq_eq_eq_not, Bool.not_true, Bool.not_false] at h108
          have hql : q < (ofI rs l[i].atoms[j]).length := by omega
          obtain ⟨hoF, hcF, hbF⟩ := hOf.int hql
          obtain ⟨x, hx, hxe, hxh⟩ := ofI_mem (List.getElem_mem hql)
          have hrok := (hP.rule _ (List.getElem_mem hx)).1
          obtain ⟨hoR, _, _, ⟨p, r, rfl, hp, hq, hhd⟩, hcellR⟩ := h2.el hx
          obtain ⟨op, cp, rfl, _, _⟩ := hp.elim
          obtain ⟨oq, cq, rfl, _, _⟩ := hq.elim
          have hfs := flatMap_succ (reasR rs l (knownI atoms.length l) i l[i].atoms) (ofI rs l[i].atoms[j]) hql
          rw [hxe, reasR_at hx] at hfs
          refine cw_skip ?_
          refine pq_then ?_
          refine cw_seq ?_
          refine cw_block ?_
          refine cw_seq ?_
          refine cw_region ?_
          refine ol_pure rfl (op_indexN sl_28 rfl rfl (by omega) hoF) ?_
          refine ol_load rfl (op_load1 one_3 rfl (fun w hw => (hw.gcell hcF).trans (by rw [hxe]))) hS ?_
          refine ol_pure rfl (op_assign rfl) ?_
          refine ol_nil ?_
          refine pq_then ?_
          refine cw_seq ?_
          refine cw_region ?_
          refine ol_pure rfl (op_fieldAddr fld_26_1 rfl) ?_
          refine ol_load rfl (op_load1 one_22 rfl (fun w hw => (hw.bcell (i := 8) rfl).trans rfl)) hS ?_
          refine ol_pure rfl (op_move rfl) ?_
          refine ol_pure rfl (op_indexN sl_22 rfl rfl (by omega) hoR) ?_
          refine ol_load rfl (op_loadN agg_30 rfl (by rfl) (fun w hw k u hk => hw.gcell (hlf.cell (hcellR k u hk)))) hS ?_
          refine ol_step rfl (op_alloc hS el_30 rfl) ?_
          clear hS
          rintro _ w ⟨b19, rfl, hS⟩
          refine ol_step0  (op_storeN (j := 0) hS sz_30 rfl rfl rfl rfl rfl (by simp [Value.oneCell'])) ?_
          clear hS
          rintro _ w hS; (try simp only [List.nil_append, List.cons_append, List.set] at hS)
          refine ol_nil ?_
          refine pq_then ?_
          refine cw_seq ?_
          refine cw_seq ?_
          refine cw_region ?_
          refine ol_pure rfl (op_fieldAddr fld_30_1 rfl) ?_
          refine ol_load rfl (op_load1 one_28 rfl (fun w hw => (hw.bcell (i := 0) rfl).trans rfl)) hS ?_
          refine ol_pure rfl (op_move rfl) ?_
          refine ol_step rfl (op_call_sc hS cf_49 rfl (slices_ContainsFunc_c (fullG _) _ (Holds.full _) _ rs[x].pos ((hp.mono EInt.mono hlf).mono EInt.mono hS.hold.le_full) (fun y => decide (y ∈ l[i].atoms)) 43 [.pointer (some ⟨b12, 0, none⟩)] cf_43 (fun w1 hB y hy => just_For_2_c (fullG _) w1 ((Holds.full _).below hB) b12 _ l[i].atoms y ((hvk.mono EInt.mono hlf).mono EInt.mono hS.hold.le_full) (hS.bcell (i := 1) (k := 1) rfl)))) ?_
          clear hS
          rintro _ w ⟨rfl, hS⟩
          refine ol_nil ?_
          refine pq_then ?_
          refine cw_cond rfl (fun h119 => ?_) (fun h119 => ?_)
          ·
           skip
           try simp only [decide_eq_true_eq, decide_eq_false_iff_not, Bool.not_eq_true', Bool.not_eq_false', Bool.not_eq_eq_eq_not, Bool.not_true, Bool.not_false] at h119
           rw [reasonI, if_pos h119, List.append_nil] at hfs
           refine cw_exit ?_
           refine pq_exit ?_
           refine pq_in_exit ?_
           refine pq_then ?_
           refine cw_region ?_
           refine ol_pure rfl (op_add rfl rfl (by omega) (by omega)) ?_
           refine ol_pure rfl (op_move rfl) ?_
           refine ol_nil ?_
           refine pq_loop _ _ (by exact (by
               replace hS := SS.drop [] hS
               exact ⟨q + 1, rfl, by omega, rfl, by rw [hfs]; exact hS⟩)) ((Sub.cons rfl (Sub.cons rfl (Sub.cons rfl (Sub.cons rfl (Sub.cons rfl (Sub.cons rfl (Sub.cons rfl (Sub.cons rfl (Sub.cons rfl (Sub.cons rfl (Sub.cons rfl (Sub.cons rfl (Sub.cons rfl (Sub.cons rfl (Sub.cons rfl (Sub.cons rfl Sub.nil))))))))))))))))) (by omega)
          ·
           skip
           try simp only [decide_eq_true_eq, decide_eq_false_iff_not, Bool.not_eq_true', Bool.not_eq_false', Bool.not_eq_eq_eq_not, Bool.not_true, Bool.not_false] at h119
           rw [reasonI, if_neg (by rw [h119]; decide)] at hfs
           refine cw_skip ?_
           refine pq_then ?_
           refine cw_seq ?_
           refine cw_region ?_
           refine ol_pure rfl (op_move rfl) ?_
           refine ol_pure rfl (op_fieldAddr fld_30_1 rfl) ?_
           refine ol_load rfl (op_load1 one_28 rfl (fun w hw => (hw.bcell (i := 0) rfl).trans rfl)) hS ?_
           refine ol_step rfl (op_callv_sc hS cf_45 rfl rfl (just_For_3_c (fullG _) _ (Holds.full _) b8 b7 b11 _ _ (knownI atoms.length l) (byL atoms.length l) i ((hKn.mono EInt.mono hdf).mono EInt.mono hS.hold.le_full) ((hBy.mono EInt.mono hdf).mono EInt.mono hS.hold.le_full) (hS.bcell0 (i := 6) rfl) (hS.bcell0 (i := 5) rfl) (hS.bcell0 (i := 2) rfl) l _ rs[x].pos 0 op cp rfl ((hp.mono EInt.mono hlf).mono EInt.mono hS.hold.le_full) (ah_in hrok.2.1))) ?_
           clear hS
           rintro _ w ⟨rfl, hS⟩
           refine ol_pure rfl (op_assign rfl) ?_
           refine ol_nil ?_
           refine pq_then ?_
           refine cw_seq ?_
           refine cw_seq ?_
           refine cw_region ?_
           refine ol_pure rfl (op_move rfl) ?_
           refine ol_pure rfl (op_len sl_28 rfl rfl) ?_
           refine ol_pure rfl (op_eql rfl rfl) ?_
           refine ol_nil ?_
           refine pq_then ?_
           refine cw_cond rfl (fun h126 => ?_) (fun h126 => ?_)
           ·
            skip
            try simp only [decide_eq_true_eq, decide_eq_false_iff_not, Bool.not_eq_true', Bool.not_eq_false', Bool.not_eq_eq_eq_not, Bool.not_true, Bool.not_false] at h126
            have hah : ¬ 0 ≤ aheadI l (knownI atoms.length l) i rs[x].pos 0 := fun hh => by
              unfold ahN at h126
              rw [if_pos hh] at h126
              exact absurd h126 (by decide)
            rw [if_neg hah] at hfs
            refine cw_region ?_
            refine ol_pure rfl (op_move rfl) ?_
            refine ol_pure rfl (op_fieldAddr fld_30_2 rfl) ?_
            refine ol_load rfl (op_load1 one_28 rfl (fun w hw => (hw.bcell (i := 0) rfl).trans rfl)) hS ?_
            refine ol_step rfl (op_callv_sc hS cf_45 rfl rfl (just_For_3_c (fullG _) _ (Holds.full _) b8 b7 b11 _ _ (knownI atoms.length l) (byL atoms.length l) i ((hKn.mono EInt.mono hdf).mono EInt.mono hS.hold.le_full) ((hBy.mono EInt.mono hdf).mono EInt.mono hS.hold.le_full) (hS.bcell0 (i := 6) rfl) (hS.bcell0 (i := 5) rfl) (hS.bcell0 (i := 2) rfl) l _ rs[x].neg 2 oq cq rfl ((hq.mono EInt.mono hlf).mono EInt.mono hS.hold.le_full) (ah_in hrok.2.2))) ?_
            clear hS
            rintro _ w ⟨rfl, hS⟩
            refine ol_pure rfl (op_assign rfl) ?_
            refine ol_nil ?_
            refine pq_then ?_
            refine cw_region ?_
            refine ol_pure rfl (op_move rfl) ?_
            refine ol_pure rfl (op_move rfl) ?_
            refine ol_step rfl (op_callvu cf_42 (fs := []) rfl rfl (by first | exact need_pre [_, _, _] l (markI l nd ((l[i].atoms.take j).flatMap (atomR rs l (knownI atoms.length l) i l[i].atoms) ++ ((ofI rs l[i].atoms[j]).take q).flatMap (reasR rs l (knownI atoms.length l) i l[i].atoms))) l.length (by simp [markI_len, hnl]) (byL atoms.length l) (hBy.mono EInt.mono hdf) _ (pickA rs[x].neg (aheadI l (knownI atoms.length l) i rs[x].neg 2)) (ah_read (hq.mono EInt.mono hlf) (findP_len _ _)) (need_in (pick_in hrok.2.2).1 (pick_in hrok.2.2).2 rfl) hS | exact need_pre [_, _, _] l (markI l nd ((l[i].atoms.take j).flatMap (atomR rs l (knownI atoms.length l) i l[i].atoms) ++ ((ofI rs l[i].atoms[j]).take q).flatMap (reasR rs l (knownI atoms.length l) i l[i].atoms))) l.length (by simp [markI_len, hnl]) (byL atoms.length l) (hBy.mono EInt.mono hdf) _ (pickA rs[x].pos (aheadI l (knownI atoms.length l) i rs[x].pos 0)) (ah_read (hp.mono EInt.mono hlf) (findP_len _ _)) (need_in (pick_in hrok.2.1).1 (pick_in hrok.2.1).2 rfl) hS)) ?_
            clear hS
            rintro _ w ⟨rfl, hS⟩; simp only [List.cons_append, List.nil_append] at hS
            refine ol_nil ?_
            refine pq_in_normal ?_
            refine pq_then ?_
            refine cw_region ?_
            refine ol_pure rfl (op_add rfl rfl (by omega) (by omega)) ?_
            refine ol_pure rfl (op_move rfl) ?_
            refine ol_nil ?_
            refine pq_loop _ _ (by exact (by
                replace hS := SS.drop [] hS
                exact ⟨q + 1, rfl, by omega, rfl, by rw [hfs, ← List.append_assoc, markI_app]; exact hS⟩)) ((Sub.cons rfl (Sub.cons rfl (Sub.cons rfl (Sub.cons rfl (Sub.cons rfl (Sub.cons rfl (Sub.cons rfl (Sub.cons rfl (Sub.cons rfl (Sub.cons rfl (Sub.cons rfl (Sub.cons rfl (Sub.cons rfl (Sub.cons rfl (Sub.cons rfl (Sub.cons rfl Sub.nil))))))))))))))))) (by omega)
           ·
            skip
            try simp only [decide_eq_true_eq, decide_eq_false_iff_not, Bool.not_eq_true', Bool.not_eq_false', Bool.not_eq_eq_eq_not, Bool.not_true, Bool.not_false] at h126
            have hah : 0 ≤ aheadI l (knownI atoms.length l) i rs[x].pos 0 := by
              unfold ahN at h126
              split at h126
              · assumption
              · exact absurd rfl h126
            rw [if_pos hah] at hfs
            refine cw_skip ?_
            refine pq_then ?_
            refine cw_region ?_
            refine ol_pure rfl (op_move rfl) ?_
            refine ol_pure rfl (op_move rfl) ?_
            refine ol_step rfl (op_callvu cf_42 (fs := []) rfl rfl (by first | exact need_pre [_, _, _] l (markI l nd ((l[i].atoms.take j).flatMap (atomR rs l (knownI atoms.length l) i l[i].atoms) ++ ((ofI rs l[i].atoms[j]).take q).flatMap (reasR rs l (knownI atoms.length l) i l[i].atoms))) l.length (by simp [markI_len, hnl]) (byL atoms.length l) (hBy.mono EInt.mono hdf) _ (pickA rs[x].neg (aheadI l (knownI atoms.length l) i rs[x].neg 2)) (ah_read (hq.mono EInt.mono hlf) (findP_len _ _)) (need_in (pick_in hrok.2.2).1 (pick_in hrok.2.2).2 rfl) hS | exact need_pre [_, _, _] l (markI l nd ((l[i].atoms.take j).flatMap (atomR rs l (knownI atoms.length l) i l[i].atoms) ++ ((ofI rs l[i].atoms[j]).take q).flatMap (reasR rs l (knownI atoms.length l) i l[i].atoms))) l.length (by simp [markI_len, hnl]) (byL atoms.length l) (hBy.mono EInt.mono hdf) _ (pickA rs[x].pos (aheadI l (knownI atoms.length l) i rs[x].pos 0)) (ah_read (hp.mono EInt.mono hlf) (findP_len _ _)) (need_in (pick_in hrok.2.1).1 (pick_in hrok.2.1).2 rfl) hS)) ?_
            clear hS
            rintro _ w ⟨rfl, hS⟩; simp only [List.cons_append, List.nil_append] at hS
            refine ol_nil ?_
            refine pq_in_normal ?_
            refine pq_then ?_
            refine cw_region ?_
            refine ol_pure rfl (op_add rfl rfl (by omega) (by omega)) ?_
            refine ol_pure rfl (op_move rfl) ?_
            refine ol_nil ?_
            refine pq_loop _ _ (by exact (by
                replace hS := SS.drop [] hS
                exact ⟨q + 1, rfl, by omega, rfl, by rw [hfs, ← List.append_assoc, markI_app]; exact hS⟩)) ((Sub.cons rfl (Sub.cons rfl (Sub.cons rfl (Sub.cons rfl (Sub.cons rfl (Sub.cons rfl (Sub.cons rfl (Sub.cons rfl (Sub.cons rfl (Sub.cons rfl (Sub.cons rfl (Sub.cons rfl (Sub.cons rfl (Sub.cons rfl (Sub.cons rfl (Sub.cons rfl Sub.nil))))))))))))))))) (by omega)
         ·
          skip
          try simp only [decide_eq_true_eq, decide_eq_false_iff_not, Bool.not_eq_true', Bool.not_eq_false', Bool.not_eq_eq_eq_not, Bool.not_true, Bool.not_false] at h108
          have hfe := flatMap_succ (atomR rs l (knownI atoms.length l) i l[i].atoms) l[i].atoms hjl
          rw [List.take_of_length_le (show (ofI rs l[i].atoms[j]).length ≤ q by omega)] at hS
          refine cw_exit ?_
          refine pq_exit ?_
          refine pq_exit ?_
          refine pq_in_exit ?_
          refine pq_in_normal ?_
          refine pq_then ?_
          refine cw_region ?_
          refine ol_pure rfl (op_add rfl rfl (by omega) (by omega)) ?_
          refine ol_pure rfl (op_move rfl) ?_
          refine ol_nil ?_
          refine pq_loop _ _ (by exact ⟨j + 1, Gf, rfl, by omega, rfl, hkk.trans hl105, by rw [hfe]; exact hS⟩) ((Sub.cons rfl (Sub.cons rfl (Sub.cons rfl (Sub.cons rfl (Sub.cons rfl (Sub.cons rfl (Sub.cons rfl (Sub.cons rfl (Sub.cons rfl (Sub.cons rfl (Sub.cons rfl (Sub.cons rfl (Sub.cons rfl Sub.nil)))))))))))))) (by omega)
        ·
         skip
         try simp only [decide_eq_true_eq, decide_eq_false_iff_not, Bool.not_eq_true', Bool.not_eq_false', Bool.not_eq_eq_eq_not, Bool.not_true, Bool.not_false] at h100
         rw [List.take_of_length_le (show l[i].atoms.length ≤ j by omega)] at hS
         refine cw_exit ?_
         refine pq_exit ?_
         refine pq_exit ?_
         refine pq_in_exit ?_
         refine pq_in_normal ?_
         refine pq_then ?_
         refine cw_seq ?_
         refine cw_seq ?_
         refine cw_region ?_
         refine ol_load rfl (op_load1 one_3 rfl (fun w hw => (hw.bcell0 (i := 1) rfl).trans rfl)) hS ?_
         refine ol_nil ?_
         refine pq_then ?_
         refine cw_region ?_
         refine ol_step rfl (op_alloc hS el_3 rfl) ?_
         clear hS
         rintro _ w ⟨b11n, rfl, hS⟩
         refine ol_step0  (op_storeB0 (j := 0) hS sz_3 rfl rfl rfl rfl) ?_
         clear hS
         rintro _ w hS; (try simp only [List.nil_append, List.cons_append, List.set] at hS)
         refine ol_nil ?_
         refine pq_then ?_
         refine cw_region ?_
         refine ol_load rfl (op_load1 one_3 rfl (fun w hw => (hw.bcell0 (i := 0) rfl).trans rfl)) hS ?_
         refine ol_pure rfl (op_sub rfl rfl (by omega) (by omega)) ?_
         refine ol_step0  (op_storeB0 (j := 0) hS sz_3 rfl rfl rfl rfl) ?_
         clear hS
         rintro _ w hS; (try simp only [List.nil_append, List.cons_append, List.set] at hS)
         refine ol_nil ?_
         refine pq_loop _ _ (by exact (by
             replace hS := SS.drop [_] (SS.drop [_] hS)
             exact ⟨i, _, b11n, Gj, rfl, by omega, rfl, by rw [markI_len]; exact hnl, by rw [hne, hdo], hdk.trans hkk, hS⟩)) ((Sub.cons rfl (Sub.cons rfl (Sub.cons rfl (Sub.cons rfl (Sub.cons rfl (Sub.cons rfl (Sub.cons rfl (Sub.cons rfl Sub.nil))))))))) (by omega)
     ·
      skip
      try simp only [decide_eq_true_eq, decide_eq_false_iff_not, Bool.not_eq_true', Bool.not_eq_false', Bool.not_eq_eq_eq_not, Bool.not_true, Bool.not_false] at h60
      refine cw_exit ?_
      refine pq_exit ?_
      refine pq_exit ?_
      refine pq_in_exit ?_
      refine pq_then ?_
      refine cw_seq ?_
      refine cw_region ?_
      refine ol_step rfl (op_alloc hS el_34 rfl) ?_
      clear hS
      rintro _ w ⟨b21, rfl, hS⟩
      refine ol_nil ?_
      refine pq_then ?_
      refine cw_seq ?_
      refine cw_seq ?_
      refine cw_region ?_
      refine ol_pure rfl (op_fieldAddr fld_34_0 rfl) ?_
      refine ol_load rfl (op_load1 one_32 rfl (fun w hw => (hw.bcell (i := 7) rfl).trans rfl)) hS ?_
      refine ol_pure rfl (op_len sl_32 rfl rfl) ?_
      refine ol_pure rfl (op_move rfl) ?_
      refine ol_nil ?_
      refine pq_then ?_
      refine cw_block ?_
      refine cw_loop (fun e w n => ∃ (i : Nat) (os : Option Addr) (cs : Nat) (us : List Value), e = [(6, .pointer (some ⟨res, 0, none⟩)), (9, .pointer (some ⟨b9, 0, none⟩)), (21, .pointer (some ⟨b21, 0, none⟩)), (138, .slice oP l.length cP), (139, .int .i64 (l.length : Nat)), (140, .int .i64 (i : Nat))] ∧ i ≤ l.length ∧ n = l.length - i ∧ Rows 2 EStep Gk us (partI (l.take i) (nd.take i)) ∧ SS G w0 Gk [.row os (partI (l.take i) (nd.take i)).length cs 37 2 us, .blk b21 34 [.slice os (partI (l.take i) (nd.take i)).length cs, .slice none 0 0], .blk b11 3 [.int .i64 ((k : Nat) - 1)], .row on l.length l.length 4 1 (nd.map Value.bool), .blk b9 49 [.slice on l.length l.length], .blk b7 28 [.slice o36 atoms.length c36], .blk b8 28 [.slice o39 atoms.length c39], .blk res 34 [.slice none 0 0, .slice none 0 0], .blk b4 34 [.slice oP l.length cP, .slice oh hs.length ch], .blk b3 26 [.slice oA atoms.length cA, .slice oR rs.length cR]] w) _ _ (by exact ⟨0, none, 0, [], rfl, Nat.zero_le _, rfl, Rows.nil _, hS.nil 37 2⟩) ((Sub.cons rfl (Sub.cons rfl (Sub.cons rfl (Sub.cons rfl (Sub.cons rfl (Sub.cons rfl Sub.nil))))))) ?_
      clear hS
      rintro e w n ⟨i, os, cs, us, rfl, hi, rfl, hus, hS⟩
      refine cw_seq ?_
      refine cw_region ?_
      refine ol_pure rfl (op_lss rfl rfl) ?_
      refine ol_nil ?_
      refine pq_then ?_
      refine cw_seq ?_
      refine cw_cond rfl (fun h141 => ?_) (fun h141 => ?_)
      ·
       skip
       try simp only [decide_eq_true_eq, decide_eq_false_iff_not, Bool.not_eq_true', Bool.not_eq_false', Bool.not_eq_eq_eq_not, Bool.not_true, Bool.not_false] at h141
       have hlt : i < l.length := by omega
       obtain ⟨hoP, _, _, ⟨vk, rfl, hvk, hrk⟩, hcells⟩ := h5.el hlt
       obtain ⟨ov, cv, rfl, _, _⟩ := hvk.elim
       have hndl : i < nd.length := by omega
       have hcm : (nd.map Value.bool)[i * 1]? = some (.bool nd[i]) := by simp [hndl]
       have hoN := (hS.news (j := 3) rfl _ _ hcm).1
       have hps := partI_succ hlt hndl
       have hpl := partI_le (l.take i) (nd.take i)
       simp only [List.length_take] at hpl
       refine cw_skip ?_
       refine pq_then ?_
       refine cw_seq ?_
       refine cw_block ?_
       refine cw_seq ?_
       refine cw_region ?_
       refine ol_pure rfl (op_move rfl) ?_
       refine ol_pure rfl (op_indexN sl_32 rfl rfl (by omega) hoP) ?_
       refine ol_load rfl (op_loadN agg_37 rfl (by rfl) (fun w hw k u hk => hw.gcell (hlk.cell (hcells k u hk)))) hS ?_
       refine ol_step rfl (op_alloc hS el_37 rfl) ?_
       clear hS
       rintro _ w ⟨b23, rfl, hS⟩
       refine ol_pure rfl (op_assign rfl) ?_
       refine ol_step0  (op_storeN (j := 0) hS sz_37 rfl rfl rfl rfl rfl (by simp [Value.oneCell'])) ?_
       clear hS
       rintro _ w hS; (try simp only [List.nil_append, List.cons_append, List.set] at hS)
       refine ol_nil ?_
       refine pq_then ?_
       refine cw_seq ?_
       refine cw_region ?_
       refine ol_load rfl (op_load1 one_49 rfl (fun w hw => (hw.bcell0 (i := 5) rfl).trans rfl)) hS ?_
       refine ol_pure rfl (op_move rfl) ?_
       refine ol_pure rfl (op_indexN sl_49 rfl rfl (by omega) hoN) ?_
       refine ol_load rfl (op_load1 one_4 rfl (fun w hw => hw.rcell (i := 4) rfl hcm)) hS ?_
       refine ol_nil ?_
       refine pq_then ?_
       refine cw_cond rfl (fun h148 => ?_) (fun h148 => ?_)
       ·
        skip
        try simp only [decide_eq_true_eq, decide_eq_false_iff_not, Bool.not_eq_true', Bool.not_eq_false', Bool.not_eq_eq_eq_not, Bool.not_true, Bool.not_false] at h148
        refine cw_region ?_
        refine ol_pure rfl (op_fieldAddr fld_34_0 rfl) ?_
        refine ol_load rfl (op_load1 one_32 rfl (fun w hw => (hw.bcell (i := 2) rfl).trans rfl)) hS ?_
        refine ol_load rfl (op_loadN agg_37 rfl (by rfl) (fun w hw k u hk => (hw.bcell (i := 0) rfl).trans hk)) hS ?_
        refine ol_step rfl (op_buildSlice (el := 37) (is := [0]) (xs := [.tmp 151]) (sz := 2) (cs := [.int .i64 l[i].rule, .slice ov l[i].atoms.length cv]) hS rfl rfl (fun w => by kernel_rfl) rfl (by decide)) ?_
        clear hS
        rintro _ w ⟨s152, rfl, hS⟩
        refine ol_step rfl (op_append (j := 2) hS sl_32 el_37 rfl rfl rfl rfl rfl rfl (by decide) (hS.news (j := 0) rfl) (by simp [Value.oneCell']) (by omega) (by unfold maxLen; omega)) ?_
        clear hS
        rintro _ w ⟨osn, c_osn, rfl, hS⟩; (try simp only [List.nil_append, List.cons_append, List.set] at hS); replace hS := SS.drop [] hS; (try simp only [List.nil_append, List.cons_append] at hS)
        refine ol_pure rfl (op_fieldAddr fld_34_0 rfl) ?_
        refine ol_step0  (op_storeB (j := 2) (k := 0) hS sz_32 rfl rfl rfl rfl (by simp)) ?_
        clear hS
        rintro _ w hS; (try simp only [List.nil_append, List.cons_append, List.set] at hS)
        refine ol_nil ?_
        refine pq_in_normal ?_
        refine pq_then ?_
        refine cw_region ?_
        refine ol_pure rfl (op_add rfl rfl (by omega) (by omega)) ?_
        refine ol_pure rfl (op_move rfl) ?_
        refine ol_nil ?_
        refine pq_loop _ _ (by exact (by
            replace hS := SS.drop [] hS
            rw [if_pos h148] at hps
            exact ⟨i + 1, osn, c_osn, _, rfl, by omega, rfl, by rw [hps]; exact hus.snoc (x := l[i]) rfl ⟨_, rfl, hvk.mono EInt.mono hlk, hrk⟩, by rw [hps, List.length_append]; exact hS⟩)) ((Sub.cons rfl (Sub.cons rfl (Sub.cons rfl (Sub.cons rfl (Sub.cons rfl (Sub.cons rfl Sub.nil))))))) (by omega)
       ·
        skip
        try simp only [decide_eq_true_eq, decide_eq_false_iff_not, Bool.not_eq_true', Bool.not_eq_false', Bool.not_eq_eq_eq_not, Bool.not_true, Bool.not_false] at h148
        refine cw_skip ?_
        refine pq_in_normal ?_
        refine pq_then ?_
        refine cw_region ?_
        refine ol_pure rfl (op_add rfl rfl (by omega) (by omega)) ?_
        refine ol_pure rfl (op_move rfl) ?_
        refine ol_nil ?_
        refine pq_loop _ _ (by exact (by
            replace hS := SS.drop [] hS
            rw [if_neg (by rw [h148]; decide), List.append_nil] at hps
            exact ⟨i + 1, os, cs, us, rfl, by omega, rfl, by rw [hps]; exact hus, by rw [hps]; exact hS⟩)) ((Sub.cons rfl (Sub.cons rfl (Sub.cons rfl (Sub.cons rfl (Sub.cons rfl (Sub.cons rfl Sub.nil))))))) (by omega)
      ·
       skip
       try simp only [decide_eq_true_eq, decide_eq_false_iff_not, Bool.not_eq_true', Bool.not_eq_false', Bool.not_eq_eq_eq_not, Bool.not_true, Bool.not_false] at h141
       refine cw_exit ?_
       refine pq_exit ?_
       refine pq_exit ?_
       refine pq_in_exit ?_
       refine pq_then ?_
       refine cw_seq ?_
       refine cw_region ?_
       refine ol_load rfl (op_loadN agg_34 rfl (by rfl) (fun w hw k u hk => (hw.bcell (i := 1) rfl).trans hk)) hS ?_
       refine ol_step0  (op_storeN (j := 7) hS sz_34 rfl rfl rfl rfl rfl (by simp [Value.oneCell'])) ?_
       clear hS
       rintro _ w hS; (try simp only [List.nil_append, List.cons_append, List.set] at hS)
       refine ol_nil ?_
       refine pq_then ?_
       refine cw_ret ?_
       refine retN rfl agg_34 rfl (by rfl) (fun k u hk => (hS.bcell (i := 7) rfl).trans hk) ?_
       have hk0 : k = 0 := by omega
       subst hk0
       have hnd : needI atoms.length rs l aa = nd := hne
       rw [List.take_of_length_le (show l.length ≤ i by omega), List.take_of_length_le (show nd.length ≤ i by omega)] at hS hus
       obtain ⟨G7, hl7, hS7, hR7⟩ := SS.give' (partI l nd) [] EStep.mono hS (by decide) hus rfl
       refine hS7.rt _ ⟨_, _, rfl, ?_, ?_⟩
       · rw [hfo, hnd, List.take_of_length_le (show l.length ≤ i by omega), List.take_of_length_le (show nd.length ≤ i by omega)]
         exact hR7
       · rw [hfo]
         exact RSl.nil _
end Go.Proofs.Ytmkgechdfimfnaa.K
