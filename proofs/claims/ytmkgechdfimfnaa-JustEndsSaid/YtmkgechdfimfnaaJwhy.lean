/-
  The proof of a program, as layer just makes it.
  No condition but the premises that each theorem names.
-/
import Derived.Test.YtmkgechdfimfnaaJproof
import Derived.Test.YtmkgechdfimfnaaMade
namespace Go.Proofs.Ytmkgechdfimfnaa.K
open Go Go.RowKit
set_option linter.unusedVariables false
set_option linter.unusedSimpArgs false

open Pl
theorem whyS_end {n : Nat} {rs : List Rule} {f : Nat} {l : List Step} {m : List Int} (hg : stepsI n rs = goS n rs (f + 1) l m) (h : fireI rs m < 0) (h2 : (openF m (unfI n rs m)).length = 0) : stepsI n rs = (l, m) := by rw [hg, goS_end h (by omega)]
theorem stepRow {G : GH} {us : List Value} {l : List Step} (h : Rows 2 EStep G us l) {rule : Int} {v : Value} {al : List Int} (hv : RSl 1 EInt G v al) (hr : -9223372036854775808 ≤ rule ∧ rule ≤ 9223372036854775807) : Rows 2 EStep G (us ++ [.int .i64 rule, v]) (l ++ [⟨rule, al⟩]) := h.snoc rfl ⟨v, rfl, hv, hr⟩

set_option maxRecDepth 100000 in
set_option maxHeartbeats 2000000 in

theorem just_Why_c (G : GH) (w0 : World) (hG : Holds G w0) {α : Type} {E : ER α} (hE : EMono E) (va vr : Value) (atoms : List α) (rs : List Rule) (h1 : RSl 1 E G va atoms) (h2 : RSl 3 ERule G vr rs) (hP : PrOk atoms.length rs)  :
   Calls Try.prog 13 #[.agg #[va, vr]] w0 (Rt G w0 (fun G v => ∃ vs vh, v = .agg #[vs, vh] ∧ RSl 2 EStep G vs (whyP atoms.length rs).1 ∧ RSl 1 EInt G vh (whyP atoms.length rs).2)) := by
 obtain ⟨oR, cR, rfl, hlR, hmR⟩ := h2.elim
 have hPn := hP.n_le
 have hPm := hP.m_le
 refine enter Try.func13 rfl (N := 77) rfl (Nat.le_of_ble_eq_true rfl) ?_
 have hS := SS.init hG
 refine cw_seq ?_
 refine cw_region ?_
 refine ol_step rfl (op_box hS rfl rfl) ?_
 clear hS
 rintro _ w ⟨b1, rfl, hS⟩
 refine ol_step rfl (op_alloc hS el_34 rfl) ?_
 clear hS
 rintro _ w ⟨res, rfl, hS⟩
 refine ol_nil ?_
 refine pq_then ?_
 refine cw_seq ?_
 refine cw_region ?_
 refine ol_load rfl (op_loadN agg_26 rfl (by rfl) (fun w hw k u hk => (hw.bcell (i := 1) rfl).trans hk)) hS ?_
 refine ol_step rfl (op_call cf_32 rfl (just_made_c atoms h1 (by omega) hS)) ?_
 clear hS
 rintro _ w ⟨X, h, rfl, hS⟩
 unfold PjS at hS
 simp only [List.cons_append, List.nil_append] at hS
 refine ol_step rfl (op_alloc hS el_61 rfl) ?_
 clear hS
 rintro _ w ⟨b3, rfl, hS⟩
 refine ol_step0  (op_storeB0 (j := 0) hS sz_61 rfl rfl rfl rfl) ?_
 clear hS
 rintro _ w hS; (try simp only [List.nil_append, List.cons_append, List.set] at hS)
 replace hS := hS.perm (List.perm_middle (l₁ := [_, _, _, _, _])).symm
 simp only [List.cons_append, List.nil_append] at hS
 refine ol_nil ?_
 refine pq_then ?_
 refine cw_seq ?_
 refine cw_block ?_
 refine cw_loop (fun e w n => ∃ (f : Nat) (l : List Step) (m : List Int) (h : PH) (us : List Value) (Gk : GH), e = [(1, .pointer (some ⟨b1, 0, none⟩)), (2, .pointer (some ⟨res, 0, none⟩)), (3, .pointer (some ⟨b3, 0, none⟩))] ∧ f = n ∧ stepsI atoms.length rs = goS atoms.length rs f l m ∧ Built atoms.length rs l m ∧ atoms.length < f + cntB (toldB atoms.length m) ∧ Le G Gk ∧ Rows 2 EStep Gk us l ∧ l.length + f ≤ atoms.length + 1 ∧ SS G w0 Gk (PjS X va (.slice oR rs.length cR) h us l.length [] m (List.replicate atoms.length false) ++ [.blk b3 61 [.pointer (some ⟨X, 0, none⟩)], .blk res 34 [.slice none 0 0, .slice none 0 0], .blk b1 26 [va, .slice oR rs.length cR]]) w) _ _ (by exact ⟨atoms.length + 1, [], startI atoms.length, h, [], G, rfl, rfl, rfl, start_built _ _, by omega, Le.refl _, Rows.nil _, by simp, hS⟩) ((Sub.cons rfl (Sub.cons rfl (Sub.cons rfl Sub.nil)))) ?_
 clear hS
 rintro e w n ⟨f, l, m, h, us, Gk, rfl, rfl, hgo, hbu, hfu, hlk, hus, hlf, hS⟩
 unfold PjS at hS
 simp only [List.cons_append, List.nil_append] at hS
 have hm := hbu.sound.len
 have hmv : ∀ x ∈ m, 0 ≤ x ∧ x ≤ 2 := by have := partly_mem (rs := rs) l (startI_mem (n := atoms.length)); rw [hbu.part] at this; exact this
 have hcl := cntB_le (toldB atoms.length m)
 simp only [toldB, soB, List.length_map, List.length_range] at hcl
 obtain ⟨f, rfl⟩ : ∃ f2, f = f2 + 1 := ⟨f - 1, by simp only [toldB, soB] at hfu; omega⟩
 refine cw_block ?_
 refine cw_seq ?_
 refine cw_seq ?_
 refine cw_region ?_
 refine ol_pure rfl (op_fieldAddr fld_26_1 rfl) ?_
 refine ol_load rfl (op_load1 one_22 rfl (fun w hw => (hw.bcell (i := 7) rfl).trans rfl)) hS ?_
 refine ol_load rfl (op_load1 one_61 rfl (fun w hw => (hw.bcell0 (i := 5) rfl).trans rfl)) hS ?_
 refine ol_pure rfl (op_makeFunc rfl rfl) ?_
 obtain ⟨hc, hTo, hHo⟩ := PjS.read (k := l.length) (hs := []) (hd := List.replicate atoms.length false) (M := [.blk b3 61 [.pointer (some ⟨X, 0, none⟩)], .blk res 34 [.slice none 0 0, .slice none 0 0], .blk b1 26 [va, .slice oR rs.length cR]]) hS hmv
 refine ol_step rfl (op_call_sc hS cf_33 rfl (slices_IndexFunc_RuleM_c (fullG _) _ (Holds.full _) _ rs (h2.mono ERule.mono (hlk.trans hS.hold.le_full)) (fun r => decide (valI m r.head = 1) && firesB m r) 34 [.pointer (some ⟨X, 0, none⟩)] [] cf_34 (fun w1 hB r hr a b ha hb => by exact just_proof_so_c (fullG _) w1 ((Holds.full _).below hB) X _ _ m _ hc hTo hHo r a b ha hb (hm ▸ (hP.rule r hr).1)))) ?_
 clear hS
 rintro _ w ⟨rfl, hS⟩
 change SS _ _ _ _ _ at hS
 refine ol_pure rfl (op_assign rfl) ?_
 refine ol_nil ?_
 refine pq_then ?_
 refine cw_seq ?_
 refine cw_region ?_
 refine ol_pure rfl (op_move rfl) ?_
 refine ol_pure rfl (op_geq rfl rfl) ?_
 refine ol_nil ?_
 refine pq_then ?_
 refine cw_cond rfl (fun h16 => ?_) (fun h16 => ?_)
 ·
  skip
  try simp only [decide_eq_true_eq, decide_eq_false_iff_not, Bool.not_eq_true', Bool.not_eq_false', Bool.not_eq_eq_eq_not, Bool.not_true, Bool.not_false] at h16
  obtain ⟨k, hfk⟩ := Int.eq_ofNat_of_zero_le h16
  obtain ⟨hk, hpk, hno⟩ := findP_spec hfk
  have hrk := (hP.rule _ (List.getElem_mem hk)).1
  obtain ⟨hoR, _, _, ⟨p, q, rfl, hp, hq, hhd⟩, hcells⟩ := h2.el hk
  have hhd1 : ∀ x ∈ [rs[k].head], 0 ≤ x ∧ x < m.length := fun x hx => by
    have hx1 : x = rs[k].head := by simpa using hx
    subst hx1
    have := hrk.1
    omega
  rw [hfk]
  refine cw_seq ?_
  replace hS := hS.perm (List.perm_append_comm (l₁ := [_, _, _, _, _]) (l₂ := [_, _, _]))
  simp only [List.cons_append, List.nil_append] at hS
  refine al_start' hS (hS.take 3) (by kernel_rfl) rfl (fun w hS hT => ?_)
  refine al_load (i := 0) rfl (by kernel_rfl) (by kernel_rfl) (by kernel_rfl) rfl (fun _ _ _ h => h) (by exact op_load1 one_61 rfl (fun w hw => (hw.bcell0 (i := 0) rfl).trans rfl)) rfl hT ?_
  refine al_take (i := 1) rfl (by kernel_rfl) (by kernel_rfl) (by kernel_rfl) rfl (fun _ _ _ h => h) (op_move rfl) rfl ?_
  refine al_take (i := 2) rfl (by kernel_rfl) (by kernel_rfl) (by kernel_rfl) rfl (fun _ _ _ h => h) (op_fieldAddr fld_26_1 rfl) rfl ?_
  refine al_load (i := 3) rfl (by kernel_rfl) (by kernel_rfl) (by kernel_rfl) rfl (fun _ _ _ h => h) (by exact op_load1 one_22 rfl (fun w hw => (hw.bcell (i := 2) rfl).trans rfl)) rfl hT ?_
  refine al_take (i := 4) rfl (by kernel_rfl) (by kernel_rfl) (by kernel_rfl) rfl (fun _ _ _ h => h) (op_move rfl) rfl ?_
  refine al_take (i := 5) rfl (by kernel_rfl) (by kernel_rfl) (by kernel_rfl) rfl (fun _ _ _ h => h) (op_indexN sl_22 rfl rfl (by omega) hoR) rfl ?_
  refine al_take (i := 6) rfl (by kernel_rfl) (by kernel_rfl) (by kernel_rfl) rfl (fun _ _ _ h => h) (op_fieldAddr fld_30_0 rfl) rfl ?_
  refine al_load (i := 7) rfl (by kernel_rfl) (by kernel_rfl) (by kernel_rfl) rfl (fun _ _ _ h => h) (by exact op_load1 one_3 rfl (fun w hw => hw.gcell (hlk.cell (hcells 0 _ rfl)))) rfl hT ?_
  refine al_step (i := 8) rfl (by kernel_rfl) rfl (op_buildSlice (el := 3) (is := [0]) (xs := [.tmp 24]) (sz := 1) (cs := [.int .i64 rs[k].head]) hS rfl rfl (fun w => by kernel_rfl) rfl (by decide)) ?_
  clear hS
  rintro _ w ⟨s25, rfl, hS⟩
  obtain ⟨G25, hl25, hS25, hR25⟩ := SS.give' [rs[k].head] [] EInt.mono hS (by decide) (oneInt _ _ hhd) rfl
  clear hS
  have hS := hS25
  clear hS25
  simp only [List.nil_append] at hS
  have hT := hT.back hS (by first | exact Le.refl _ | assumption) (fun x hx => by try simp only [List.take_succ_cons, List.take_zero, List.mem_cons, List.not_mem_nil, or_false] at hx; (rcases hx with rfl | rfl | rfl) <;> simp)
  refine ⟨fun _ _ => hT, ?_⟩
  replace hS := hS.perm (List.perm_append_comm (l₁ := [_, _, _]) (l₂ := [_, _, _, _, _]))
  simp only [List.cons_append, List.nil_append] at hS
  refine al_step (i := 9) rfl (by kernel_rfl) rfl (op_callu cf_35 rfl (just_proof_tell_c (b := X) (va := va) (vr := .slice oR rs.length cR) (h := h) (us := us) (k := l.length) (hs := []) (m := m) (hd := List.replicate atoms.length false) (M := [.blk b3 61 [.pointer (some ⟨X, 0, none⟩)], .blk res 34 [.slice none 0 0, .slice none 0 0], .blk b1 26 [va, .slice oR rs.length cR]]) hS (k : Int) 2 _ [rs[k].head] hR25 (hhd1) (by omega))) ?_
  clear hS
  rintro _ w ⟨rfl, h', hS⟩
  have hT := hT.back hS (by first | exact Le.refl _ | assumption) (fun x hx => by try simp only [List.take_succ_cons, List.take_zero, List.mem_cons, List.not_mem_nil, or_false] at hx; (rcases hx with rfl | rfl | rfl) <;> simp)
  refine ⟨fun _ _ => hT, ?_⟩
  refine al_done (by kernel_rfl) ?_
  refine pq_then ?_
  refine cw_exit ?_
  refine pq_exit ?_
  refine pq_in_exit ?_
  refine pq_loop _ _ (by exact (by
      have hst := fire_step hP hm hk hfk
      have htl := told_lt (n := atoms.length) hm (stepOk_set hst)
      have he : tellI m ⟨(k : Int), [rs[k].head]⟩ = setAll m [rs[k].head] 2 := by
        unfold tellI
        rw [if_pos (by show (0 : Int) ≤ k; omega)]
      refine ⟨f, l ++ [⟨(k : Int), [rs[k].head]⟩], setAll m [rs[k].head] 2, h', _, G25, rfl, rfl, ?_, ?_, ?_, hlk.trans hl25, stepRow (hus.mono EStep.mono hl25) hR25 (by omega), by simp; omega, by rw [List.length_append]; exact hS⟩
      · rw [hgo, goS_fire hk hfk]; rfl
      · rw [← he]; exact hbu.add hP hst
      · rw [← he]; omega)) ((Sub.cons rfl (Sub.cons rfl (Sub.cons rfl Sub.nil)))) (by omega)
 ·
  skip
  try simp only [decide_eq_true_eq, decide_eq_false_iff_not, Bool.not_eq_true', Bool.not_eq_false', Bool.not_eq_eq_eq_not, Bool.not_true, Bool.not_false] at h16
  have hfi : fireI rs m < 0 := by unfold fireI; omega
  refine cw_skip ?_
  refine pq_then ?_
  refine cw_seq ?_
  refine cw_region ?_
  refine ol_pure rfl (op_makeFunc rfl rfl) ?_
  refine ol_pure rfl (op_assign rfl) ?_
  refine ol_nil ?_
  refine pq_then ?_
  refine cw_seq ?_
  refine al_start' hS (hS.take 8) (by kernel_rfl) rfl (fun w hS hT => ?_)
  refine al_load (i := 0) rfl (by kernel_rfl) (by kernel_rfl) (by kernel_rfl) rfl (fun _ _ _ h => h) (by exact op_loadN agg_26 rfl (by rfl) (fun w hw k u hk => (hw.bcell (i := 7) rfl).trans hk)) rfl hT ?_
  refine al_load (i := 1) rfl (by kernel_rfl) (by kernel_rfl) (by kernel_rfl) rfl (fun _ _ _ h => h) (by exact op_load1 one_61 rfl (fun w hw => (hw.bcell0 (i := 5) rfl).trans rfl)) rfl hT ?_
  refine al_take (i := 2) rfl (by kernel_rfl) (by kernel_rfl) (by kernel_rfl) rfl (fun _ _ _ h => h) (op_nilCheck rfl) rfl ?_
  refine al_take (i := 3) rfl (by kernel_rfl) (by kernel_rfl) (by kernel_rfl) rfl (fun _ _ _ h => h) (op_fieldAddr fld_67_2 rfl) rfl ?_
  refine al_load (i := 4) rfl (by kernel_rfl) (by kernel_rfl) (by kernel_rfl) rfl (fun _ _ _ h => h) (by exact op_load1 one_28 rfl (fun w hw => (hw.bcell (i := 0) rfl).trans rfl)) rfl hT ?_
  refine al_take (i := 7) rfl (by kernel_rfl) (by kernel_rfl) (by kernel_rfl) rfl (fun _ _ _ h => h) (op_move rfl) rfl ?_
  obtain ⟨hc2, hTo2, hHo2⟩ := PjS.read (k := l.length) (hs := []) (hd := List.replicate atoms.length false) (M := [.blk b3 61 [.pointer (some ⟨X, 0, none⟩)], .blk res 34 [.slice none 0 0, .slice none 0 0], .blk b1 26 [va, .slice oR rs.length cR]]) hS hmv
  refine al_step (i := 5) rfl (by kernel_rfl) rfl (op_call_fr hS cf_39 rfl (wfm_Unfounded_c (fullG _) _ (Holds.full _) hE _ _ atoms rs (h1.mono hE (hlk.trans hS.hold.le_full)) (h2.mono ERule.mono (hlk.trans hS.hold.le_full)) hP _ m hTo2)) ?_
  clear hS
  rintro v33 w ⟨F33, G33, hR33, hF33, hf33, hl33, hS⟩
  obtain ⟨o33, c33, rfl, _, _⟩ := hR33.elim
  have hT := hT.back hS (by first | exact Le.refl _ | assumption) (fun x hx => by try simp only [List.take_succ_cons, List.take_zero, List.mem_cons, List.not_mem_nil, or_false] at hx; (rcases hx with rfl | rfl | rfl | rfl | rfl | rfl | rfl | rfl) <;> simp)
  refine ⟨fun _ _ => hT, ?_⟩
  refine al_step (i := 6) rfl (by kernel_rfl) rfl (op_call cf_38 rfl (slices_Clone_c hS (hR33.mono EInt.mono hf33) (by have := unf_len atoms.length rs m; omega))) ?_
  clear hS
  rintro _ w ⟨o34, c34, rfl, hS⟩
  have hT := hT.back hS (by first | exact Le.refl _ | assumption) (fun x hx => by try simp only [List.take_succ_cons, List.take_zero, List.mem_cons, List.not_mem_nil, or_false] at hx; (rcases hx with rfl | rfl | rfl | rfl | rfl | rfl | rfl | rfl) <;> simp)
  refine ⟨fun _ _ => hT, ?_⟩
  refine al_step (i := 8) rfl (by kernel_rfl) rfl (op_callu cf_37 rfl (slices_DeleteFunc_c hS (fun x hx => by have := unf_range hx; omega) (fun a => !decide (valI m a = 1)) _ (openF_filter hm) 36 [.pointer (some ⟨b3, 0, none⟩)] cf_36 (fun ys w1 hS1 x hx => by
      have hS2 := SS.drop [] hS1
      obtain ⟨hc3, hTo3, hHo3⟩ := PjS.read (k := l.length) (hs := []) (hd := List.replicate atoms.length false) (M := [.blk b3 61 [.pointer (some ⟨X, 0, none⟩)], .blk res 34 [.slice none 0 0, .slice none 0 0], .blk b1 26 [va, .slice oR rs.length cR]]) hS2 hmv
      exact just_Why_1_c (fullG _) w1 (Holds.full _) X _ _ m _ hc3 hTo3 hHo3 b3 x (hS1.bcell0 (i := 6) rfl) (hm ▸ unf_range hx)))) ?_
  clear hS
  rintro _ w ⟨rfl, hS⟩
  have hT := hT.back hS (by first | exact Le.refl _ | assumption) (fun x hx => by try simp only [List.take_succ_cons, List.take_zero, List.mem_cons, List.not_mem_nil, or_false] at hx; (rcases hx with rfl | rfl | rfl | rfl | rfl | rfl | rfl | rfl) <;> simp)
  refine ⟨fun _ _ => hT, ?_⟩
  refine al_take (i := 9) rfl (by kernel_rfl) (by kernel_rfl) (by kernel_rfl) rfl (fun _ _ _ h => h) (op_assign rfl) rfl ?_
  refine al_done (by kernel_rfl) ?_
  refine pq_then ?_
  refine cw_seq ?_
  refine cw_seq ?_
  refine cw_region ?_
  refine ol_pure rfl (op_move rfl) ?_
  refine ol_pure rfl (op_len sl_28 rfl rfl) ?_
  refine ol_pure rfl (op_eql rfl rfl) ?_
  refine ol_nil ?_
  refine pq_then ?_
  refine cw_cond rfl (fun h39 => ?_) (fun h39 => ?_)
  ·
   skip
   try simp only [decide_eq_true_eq, decide_eq_false_iff_not, Bool.not_eq_true', Bool.not_eq_false', Bool.not_eq_eq_eq_not, Bool.not_true, Bool.not_false] at h39
   replace hS := SS.drop [] hS
   simp only [List.nil_append] at hS
   refine cw_exit ?_
   refine pq_exit ?_
   refine pq_in_other rfl ?_
   refine pq_exit ?_
   refine pq_in_exit ?_
   refine pq_then ?_
   refine cw_block ?_
   have hst := whyS_end hgo hfi (by omega)
   have hlk2 := hlk.trans hl33
   have hus2 := hus.mono EStep.mono hl33
   clear hgo hbu hfu
   refine cw_loop (fun e w n => ∃ (f : Nat) (out heads : List Int) (h : PH), e = [(1, .pointer (some ⟨b1, 0, none⟩)), (2, .pointer (some ⟨res, 0, none⟩)), (3, .pointer (some ⟨b3, 0, none⟩))] ∧ f = n ∧ holdT atoms.length rs m = goT rs m f out heads ∧ out.length = heads.length ∧ heads.length + f = atoms.length + 1 ∧ heads.Nodup ∧ (∀ x ∈ heads, 0 ≤ x ∧ x < atoms.length) ∧ (∀ x ∈ out, 0 ≤ x ∧ x < rs.length) ∧ SS G w0 G33 (PjS X va (.slice oR rs.length cR) h us l.length out m (marks atoms.length heads) ++ [.blk b3 61 [.pointer (some ⟨X, 0, none⟩)], .blk res 34 [.slice none 0 0, .slice none 0 0], .blk b1 26 [va, .slice oR rs.length cR]]) w) _ _ (by exact ⟨atoms.length + 1, [], [], h, rfl, rfl, rfl, rfl, by simp, List.nodup_nil, by simp, by simp, by rw [marks_nil]; exact hS⟩) ((Sub.cons rfl (Sub.cons rfl (Sub.cons rfl Sub.nil)))) ?_
   clear hlk
   have hlk := hlk2
   clear hlk2
   clear hS
   rintro e w n ⟨f, out, heads, h, rfl, rfl, hgo, hol, hfl, hnd, hhr, hor, hS⟩
   unfold PjS at hS
   simp only [List.cons_append, List.nil_append] at hS
   have hhn0 : heads.length ≤ atoms.length := by
     have h9 := nodup_sub (l := heads) (O := (List.range atoms.length).map (fun (i : Nat) => (i : Int))) hnd (fun x hx => by
       rw [List.mem_map]
       have hxr := hhr x hx
       exact ⟨x.toNat, List.mem_range.2 (by omega), by omega⟩)
     simpa using h9
   obtain ⟨f, rfl⟩ : ∃ f2, f = f2 + 1 := ⟨f - 1, by omega⟩
   refine cw_block ?_
   refine cw_seq ?_
   refine cw_region ?_
   refine ol_pure rfl (op_fieldAddr fld_26_1 rfl) ?_
   refine ol_load rfl (op_load1 one_22 rfl (fun w hw => (hw.bcell (i := 7) rfl).trans rfl)) hS ?_
   refine ol_load rfl (op_load1 one_61 rfl (fun w hw => (hw.bcell0 (i := 5) rfl).trans rfl)) hS ?_
   refine ol_pure rfl (op_makeFunc rfl rfl) ?_
   obtain ⟨hc, hTo, hHo⟩ := PjS.read (k := l.length) (hs := out) (hd := marks atoms.length heads) (M := [.blk b3 61 [.pointer (some ⟨X, 0, none⟩)], .blk res 34 [.slice none 0 0, .slice none 0 0], .blk b1 26 [va, .slice oR rs.length cR]]) hS hmv
   refine ol_step rfl (op_call_sc hS cf_33 rfl (slices_IndexFunc_RuleM_c (fullG _) _ (Holds.full _) _ rs (h2.mono ERule.mono (hlk.trans hS.hold.le_full)) (supH m heads) 40 [.pointer (some ⟨X, 0, none⟩)] [] cf_40 (fun w1 hB r hr a b ha hb => by rw [← supD_marks (n := atoms.length) (hP.rule r hr).1]; exact just_proof_holds_c (fullG _) w1 ((Holds.full _).below hB) X _ _ m _ hc hTo hHo r a b ha hb (hm ▸ (hP.rule r hr).1) (by rw [marks_len, hm])))) ?_
   clear hS
   rintro _ w ⟨rfl, hS⟩
   refine ol_pure rfl (op_assign rfl) ?_
   refine ol_nil ?_
   refine pq_then ?_
   refine cw_seq ?_
   refine cw_seq ?_
   refine cw_region ?_
   refine ol_pure rfl (op_move rfl) ?_
   refine ol_pure rfl (op_lss rfl rfl) ?_
   refine ol_nil ?_
   refine pq_then ?_
   refine cw_cond rfl (fun h49 => ?_) (fun h49 => ?_)
   ·
    skip
    try simp only [decide_eq_true_eq, decide_eq_false_iff_not, Bool.not_eq_true', Bool.not_eq_false', Bool.not_eq_eq_eq_not, Bool.not_true, Bool.not_false] at h49
    refine cw_seq ?_
    refine cw_region ?_
    refine ol_load rfl (op_load1 one_61 rfl (fun w hw => (hw.bcell0 (i := 5) rfl).trans rfl)) hS ?_
    refine ol_pure rfl (op_nilCheck rfl) ?_
    refine ol_pure rfl (op_fieldAddr fld_67_1 rfl) ?_
    refine ol_load rfl (op_loadN (cs := [.slice h.os l.length h.cs, .slice h.oh out.length h.ch]) agg_34 rfl rfl (fun w hw k u hk => (hw.bcell2 (i := 0) (o := 2) rfl).trans (by rcases k with _ | _ | k <;> first | exact hk | simp at hk))) hS ?_
    refine ol_step0  (op_storeN (j := 6) hS sz_34 rfl rfl rfl rfl rfl (by simp [Value.oneCell'])) ?_
    clear hS
    rintro _ w hS; (try simp only [List.nil_append, List.cons_append, List.set] at hS)
    refine ol_nil ?_
    refine pq_then ?_
    refine cw_ret ?_
    refine pq_ret ?_
    refine pq_in_ret ?_
    refine pq_ret ?_
    refine pq_in_ret ?_
    refine retN rfl agg_34 rfl (by rfl) (fun k u hk => (hS.bcell (i := 6) rfl).trans hk) ?_
    rw [goT_end h49] at hgo
    obtain ⟨G7, hl7, hS7, hR7⟩ := SS.give' l [_] EStep.mono hS (by decide) hus2 rfl
    obtain ⟨G8, hl8, hS8, hR8⟩ := SS.give' out [_] EInt.mono hS7 (by decide) ((Rows.ints (l := out) (fun x hx => by have := hor x hx; omega)).mono EInt.mono (fun b o hb => by cases hb)) rfl
    refine hS8.rt _ ⟨_, _, rfl, ?_, ?_⟩
    · rw [whyP, hst]
      exact hR7.mono EStep.mono hl8
    · rw [whyP, hst, hgo]
      exact hR8
   ·
    skip
    try simp only [decide_eq_true_eq, decide_eq_false_iff_not, Bool.not_eq_true', Bool.not_eq_false', Bool.not_eq_eq_eq_not, Bool.not_true, Bool.not_false] at h49
    obtain ⟨k, hfk⟩ := Int.eq_ofNat_of_zero_le (show 0 ≤ findP (supH m heads) rs by omega)
    obtain ⟨hk, hpk, hno⟩ := findP_spec hfk
    have hrk := (hP.rule _ (List.getElem_mem hk)).1
    obtain ⟨hoR, _, _, ⟨p, q, rfl, hp, hq, hhd⟩, hcells⟩ := h2.el hk
    have hnew := supH_new hpk
    have hhl := nodup_snoc hnd hnew
    have hhn : (heads ++ [rs[k].head]).length ≤ atoms.length := by
      have h9 := nodup_sub (l := heads ++ [rs[k].head]) (O := (List.range atoms.length).map (fun (i : Nat) => (i : Int))) hhl (fun x hx => by
        rw [List.mem_map]
        have hxr : 0 ≤ x ∧ x < atoms.length := by
          rcases List.mem_append.1 hx with hx | hx
          · exact hhr x hx
          · have : x = rs[k].head := by simpa using hx
            subst this; exact hrk.1
        exact ⟨x.toNat, List.mem_range.2 (by omega), by omega⟩)
      simpa using h9
    simp only [List.length_append, List.length_cons, List.length_nil] at hhn
    have hgo2 := goT_go (rs := rs) (m := m) (f := f) (out := out) hk hfk
    rw [hfk]
    obtain ⟨hd0, hhe⟩ := Int.eq_ofNat_of_zero_le hrk.1.1
    have hdn : hd0 < (marks atoms.length heads).length := by rw [marks_len]; have := hrk.1.2; omega
    have hoH := (hS.news (j := 4) rfl (hd0 * 1) (.bool (marks atoms.length heads)[hd0]) (by simp [hdn])).1
    refine cw_skip ?_
    refine pq_then ?_
    refine cw_seq ?_
    refine al_start' hS (hS.take 8) (by kernel_rfl) rfl (fun w hS hT => ?_)
    refine al_load (i := 0) rfl (by kernel_rfl) (by kernel_rfl) (by kernel_rfl) rfl (fun _ _ _ h => h) (by exact op_load1 one_61 rfl (fun w hw => (hw.bcell0 (i := 5) rfl).trans rfl)) rfl hT ?_
    refine al_take (i := 1) rfl (by kernel_rfl) (by kernel_rfl) (by kernel_rfl) rfl (fun _ _ _ h => h) (op_nilCheck rfl) rfl ?_
    refine al_take (i := 2) rfl (by kernel_rfl) (by kernel_rfl) (by kernel_rfl) rfl (fun _ _ _ h => h) (op_fieldAddr fld_67_3 rfl) rfl ?_
    refine al_load (i := 3) rfl (by kernel_rfl) (by kernel_rfl) (by kernel_rfl) rfl (fun _ _ _ h => h) (by exact op_load1 one_49 rfl (fun w hw => (hw.bcell (i := 0) rfl).trans rfl)) rfl hT ?_
    refine al_take (i := 4) rfl (by kernel_rfl) (by kernel_rfl) (by kernel_rfl) rfl (fun _ _ _ h => h) (op_fieldAddr fld_26_1 rfl) rfl ?_
    refine al_load (i := 5) rfl (by kernel_rfl) (by kernel_rfl) (by kernel_rfl) rfl (fun _ _ _ h => h) (by exact op_load1 one_22 rfl (fun w hw => (hw.bcell (i := 7) rfl).trans rfl)) rfl hT ?_
    refine al_take (i := 6) rfl (by kernel_rfl) (by kernel_rfl) (by kernel_rfl) rfl (fun _ _ _ h => h) (op_move rfl) rfl ?_
    refine al_take (i := 7) rfl (by kernel_rfl) (by kernel_rfl) (by kernel_rfl) rfl (fun _ _ _ h => h) (op_indexN sl_22 rfl rfl (by omega) hoR) rfl ?_
    refine al_take (i := 8) rfl (by kernel_rfl) (by kernel_rfl) (by kernel_rfl) rfl (fun _ _ _ h => h) (op_fieldAddr fld_30_0 rfl) rfl ?_
    refine al_load (i := 9) rfl (by kernel_rfl) (by kernel_rfl) (by kernel_rfl) rfl (fun _ _ _ h => h) (by exact op_load1 one_3 rfl (fun w hw => hw.gcell (hlk.cell (hcells 0 _ rfl)))) rfl hT ?_
    refine al_take (i := 10) rfl (by kernel_rfl) (by kernel_rfl) (by kernel_rfl) rfl (fun _ _ _ h => h) (op_val (op_indexAddr sl_49 rfl rfl (by omega) (by omega) hoH) (v' := .pointer (some (elA h.ol (hd0 * 1)))) (by rw [hhe]; rfl)) rfl ?_
    refine al_step0 (i := 11) rfl (by kernel_rfl) (op_storeR (j := 4) (k := hd0 * 1) hS sz_4 rfl rfl rfl rfl (by simpa using hdn)) ?_
    clear hS
    rintro _ w hS; (try simp only [List.nil_append, List.cons_append, List.set] at hS)
    rw [Nat.mul_one, ← List.map_set, show (marks atoms.length heads).set hd0 true = marks atoms.length (heads ++ [rs[k].head]) from by rw [← marks_add hrk.1.1, hhe]; rfl] at hS
    refine ⟨no_need (by kernel_rfl), ?_⟩
    refine al_done (by kernel_rfl) ?_
    refine pq_then ?_
    replace hS := hS.perm (List.perm_middle (l₁ := [_, _, _, _, _]))
    simp only [List.cons_append, List.nil_append] at hS
    refine al_start' hS (hS.take 2) (by kernel_rfl) rfl (fun w hS hT => ?_)
    refine al_load (i := 0) rfl (by kernel_rfl) (by kernel_rfl) (by kernel_rfl) rfl (fun _ _ _ h => h) (by exact op_load1 one_61 rfl (fun w hw => (hw.bcell0 (i := 0) rfl).trans rfl)) rfl hT ?_
    refine al_load (i := 1) rfl (by kernel_rfl) (by kernel_rfl) (by kernel_rfl) rfl (fun _ _ _ h => h) (by exact op_load1 one_61 rfl (fun w hw => (hw.bcell0 (i := 0) rfl).trans rfl)) rfl hT ?_
    refine al_take (i := 2) rfl (by kernel_rfl) (by kernel_rfl) (by kernel_rfl) rfl (fun _ _ _ h => h) (op_nilCheck rfl) rfl ?_
    refine al_take (i := 3) rfl (by kernel_rfl) (by kernel_rfl) (by kernel_rfl) rfl (fun _ _ _ h => h) (op_fieldAddr fld_67_1 rfl) rfl ?_
    refine al_take (i := 4) rfl (by kernel_rfl) (by kernel_rfl) (by kernel_rfl) rfl (fun _ _ _ h => h) (op_fieldAddr2 (o := 2) (q := 3) fld_34_1 rfl (by decide)) rfl ?_
    refine al_load (i := 5) rfl (by kernel_rfl) (by kernel_rfl) (by kernel_rfl) rfl (fun _ _ _ h => h) (by exact op_load1 one_28 rfl (fun w hw => (hw.bcell (i := 1) rfl).trans rfl)) rfl hT ?_
    refine al_take (i := 6) rfl (by kernel_rfl) (by kernel_rfl) (by kernel_rfl) rfl (fun _ _ _ h => h) (op_move rfl) rfl ?_
    refine al_step (i := 7) rfl (by kernel_rfl) rfl (op_buildSlice (el := 3) (is := [0]) (xs := [.tmp 71]) (sz := 1) (cs := [.int .i64 (k : Nat)]) hS rfl rfl (fun w => by kernel_rfl) rfl (by decide)) ?_
    clear hS
    rintro _ w ⟨s72, rfl, hS⟩
    have hT := hT.back hS (by first | exact Le.refl _ | assumption) (fun x hx => by try simp only [List.take_succ_cons, List.take_zero, List.mem_cons, List.not_mem_nil, or_false] at hx; (rcases hx with rfl | rfl) <;> simp)
    refine ⟨fun _ _ => hT, ?_⟩
    refine al_step (i := 8) rfl (by kernel_rfl) rfl (op_append (j := 4) hS sl_28 el_3 rfl rfl rfl rfl rfl rfl (by decide) (hS.news (j := 0) rfl) (by simp [Value.oneCell']) (by omega) (by unfold maxLen; omega)) ?_
    clear hS
    rintro _ w ⟨holdsn, c_holdsn, rfl, hS⟩; (try simp only [List.nil_append, List.cons_append, List.set] at hS); replace hS := SS.drop [] hS; (try simp only [List.nil_append, List.cons_append] at hS)
    have hT := hT.back hS (by first | exact Le.refl _ | assumption) (fun x hx => by try simp only [List.take_succ_cons, List.take_zero, List.mem_cons, List.not_mem_nil, or_false] at hx; (rcases hx with rfl | rfl) <;> simp)
    refine ⟨fun _ _ => hT, ?_⟩
    refine al_take (i := 9) rfl (by kernel_rfl) (by kernel_rfl) (by kernel_rfl) rfl (fun _ _ _ h => h) (op_nilCheck rfl) rfl ?_
    refine al_take (i := 10) rfl (by kernel_rfl) (by kernel_rfl) (by kernel_rfl) rfl (fun _ _ _ h => h) (op_fieldAddr fld_67_1 rfl) rfl ?_
    refine al_take (i := 11) rfl (by kernel_rfl) (by kernel_rfl) (by kernel_rfl) rfl (fun _ _ _ h => h) (op_fieldAddr2 (o := 2) (q := 3) fld_34_1 rfl (by decide)) rfl ?_
    refine al_step0 (i := 12) rfl (by kernel_rfl) (op_storeB (j := 1) (k := 3) hS sz_28 rfl rfl rfl rfl (by simp)) ?_
    clear hS
    rintro _ w hS; (try simp only [List.nil_append, List.cons_append, List.set] at hS)
    refine ⟨no_need (by kernel_rfl), ?_⟩
    refine al_done (by kernel_rfl) ?_
    refine pq_in_normal ?_
    refine pq_loop _ _ (by exact (by
        replace hS := hS.perm (List.perm_middle (l₁ := [_, _, _, _, _])).symm
        refine ⟨f, out ++ [(k : Int)], heads ++ [rs[k].head], { h with oh := holdsn, ch := c_holdsn }, rfl, rfl, by rw [hgo, hgo2], by simp; omega, by simp; omega, hhl, ?_, ?_, ?_⟩
        · intro x hx
          rcases List.mem_append.1 hx with hx | hx
          · exact hhr x hx
          · have : x = rs[k].head := by simpa using hx
            subst this; exact hrk.1
        · intro x hx
          rcases List.mem_append.1 hx with hx | hx
          · exact hor x hx
          · have : x = k := by simpa using hx
            omega
        · have hl1 : (out ++ [(k : Int)]).length = out.length + 1 := by simp
          have hl2 : (marks atoms.length (heads ++ [rs[k].head])).length = (marks atoms.length heads).length := by rw [marks_len, marks_len]
          unfold PjS
          rw [hl1, hl2, List.map_append]
          exact hS)) ((Sub.cons rfl (Sub.cons rfl (Sub.cons rfl Sub.nil)))) (by omega)
  ·
   skip
   try simp only [decide_eq_true_eq, decide_eq_false_iff_not, Bool.not_eq_true', Bool.not_eq_false', Bool.not_eq_eq_eq_not, Bool.not_true, Bool.not_false] at h39
   obtain ⟨G6, hl6, hS6, hR6⟩ := SS.give' (openF m (unfI atoms.length rs m)) [] EInt.mono hS (by decide) ((Rows.ints (l := openF m (unfI atoms.length rs m)) (fun x hx => by have := (openF_iff.1 hx).2; omega)).mono EInt.mono (fun b o hb => by cases hb)) rfl
   clear hS
   have hS := hS6
   clear hS6
   simp only [List.nil_append] at hS
   refine cw_skip ?_
   refine pq_then ?_
   refine cw_region ?_
   refine ol_load rfl (op_load1 one_61 rfl (fun w hw => (hw.bcell0 (i := 5) rfl).trans rfl)) hS ?_
   refine ol_pure rfl (op_move rfl) ?_
   refine ol_step rfl (op_callu cf_35 rfl (just_proof_tell_c (b := X) (va := va) (vr := .slice oR rs.length cR) (h := h) (us := us) (k := l.length) (hs := []) (m := m) (hd := List.replicate atoms.length false) (M := [.blk b3 61 [.pointer (some ⟨X, 0, none⟩)], .blk res 34 [.slice none 0 0, .slice none 0 0], .blk b1 26 [va, .slice oR rs.length cR]]) hS (-1) 0 _ (openF m (unfI atoms.length rs m)) hR6 (fun x hx => ⟨(openF_iff.1 hx).2.1, (openF_iff.1 hx).2.2.1⟩) (by omega))) ?_
   clear hS
   rintro _ w ⟨rfl, h', hS⟩
   refine ol_nil ?_
   refine pq_in_normal ?_
   refine pq_loop _ _ (by exact (by
       have hpo : 0 < (openF m (unfI atoms.length rs m)).length := by omega
       have hst := unf_step hP hm hbu.sound.v hbu.proven hpo
       have htl := told_lt (n := atoms.length) hm (stepOk_set hst)
       have he : tellI m ⟨-1, openF m (unfI atoms.length rs m)⟩ = setAll m (openF m (unfI atoms.length rs m)) 0 := rfl
       refine ⟨f, l ++ [⟨-1, openF m (unfI atoms.length rs m)⟩], setAll m (openF m (unfI atoms.length rs m)) 0, h', _, G6, rfl, rfl, ?_, ?_, ?_, ((hlk.trans hl33).trans hl6), stepRow (hus.mono EStep.mono (hl33.trans hl6)) hR6 (by omega), by simp; omega, by rw [List.length_append]; exact hS⟩
       · rw [hgo, goS_unf hfi hpo]
       · rw [← he]; exact hbu.add hP hst
       · rw [← he]; omega)) ((Sub.cons rfl (Sub.cons rfl (Sub.cons rfl Sub.nil)))) (by omega)
end Go.Proofs.Ytmkgechdfimfnaa.K
