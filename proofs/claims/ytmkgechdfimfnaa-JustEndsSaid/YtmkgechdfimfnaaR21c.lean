/-
  The document for layer 21: the proof of a program.
  No condition but the premises that each theorem names.
-/
import Derived.Test.YtmkgechdfimfnaaR21b
import Derived.Test.YtmkgechdfimfnaaJwhy
namespace Go.Proofs.Ytmkgechdfimfnaa.K
open Go Go.RowKit
set_option linter.unusedVariables false
set_option linter.unusedSimpArgs false

open Pl
theorem openF_take_succ {m U : List Int} {k : Nat} (hk : k < U.length) (h0 : 0 ≤ U[k]) (h1 : U[k] < m.length) : openF m (U.take (k + 1)) = openF m (U.take k) ++ if valI m U[k] = 1 then [U[k]] else [] := by
  unfold openF
  rw [List.take_succ_eq_append_getElem hk, List.filter_append]
  by_cases h : valI m U[k] = 1 <;> simp [List.filter, h0, h1, h]
theorem nodup_len {l : List Int} {n : Nat} (h : l.Nodup) (hr : ∀ x ∈ l, 0 ≤ x ∧ x < n) : l.length ≤ n := by
  have h9 := nodup_sub (l := l) (O := (List.range n).map (fun (i : Nat) => (i : Int))) h (fun x hx => by
    rw [List.mem_map]
    have hxr := hr x hx
    exact ⟨x.toNat, List.mem_range.2 (by omega), by omega⟩)
  simpa using h9
theorem mem_snoc_range {l : List Int} {x : Int} {P : Int → Prop} (h : ∀ y ∈ l, P y) (hx : P x) : ∀ y ∈ l ++ [x], P y := fun y hy => by
  rcases List.mem_append.1 hy with hy | hy
  · exact h y hy
  · have : y = x := by simpa using hy
    rw [this]; exact hx

set_option maxRecDepth 100000 in
set_option maxHeartbeats 2000000 in

theorem R21_holds_c (G : GH) (w0 : World) (hG : Holds G w0) {α : Type} {E : ER α} (hE : EMono E) (va vr : Value) (atoms : List α) (rs : List Rule) (h1 : RSl 1 E G va atoms) (h2 : RSl 3 ERule G vr rs) (hP : PrOk atoms.length rs) (vm : Value) (m : List Int) (h3 : RSl 1 EInt G vm m) (hm : m.length = atoms.length) :
   Calls Try.prog 52 #[.agg #[va, vr], vm] w0 (Rt noG w0 (fun G v => RSl 1 EInt G v (holdT atoms.length rs m))) := by
 obtain ⟨oA, cA, rfl, hlA, hmA⟩ := h1.elim
 obtain ⟨oR, cR, rfl, hlR, hmR⟩ := h2.elim
 have hle1 := h1.le
 have hle2 := h2.le
 have hPn := hP.n_le
 have hPm := hP.m_le
 obtain ⟨oM, cM, rfl, hlM, hmM⟩ := h3.elim
 have hMle := h3.le
 refine enter Try.func52 rfl (N := 49) rfl (Nat.le_of_ble_eq_true rfl) ?_
 have hS := SS.init hG
 refine cw_seq ?_
 refine cw_region ?_
 refine ol_step rfl (op_box hS rfl rfl) ?_
 clear hS
 rintro _ w ⟨b2, rfl, hS⟩
 refine ol_pure rfl (op_assign rfl) ?_
 refine ol_nil ?_
 refine pq_then ?_
 refine cw_seq ?_
 refine al_start' hS (hS.take 1) (by kernel_rfl) rfl (fun w hS hT => ?_)
 refine al_take (i := 1) rfl (by kernel_rfl) (by kernel_rfl) (by kernel_rfl) rfl (fun _ _ _ h => h) (op_fieldAddr fld_26_0 rfl) rfl ?_
 refine al_load (i := 2) rfl (by kernel_rfl) (by kernel_rfl) (by kernel_rfl) rfl (fun _ _ _ h => h) (by exact op_load1 one_24 rfl (fun w hw => (hw.bcell (i := 0) rfl).trans rfl)) rfl hT ?_
 refine al_take (i := 3) rfl (by kernel_rfl) (by kernel_rfl) (by kernel_rfl) rfl (fun _ _ _ h => h) (op_len sl_24 rfl rfl) rfl ?_
 refine al_meet (fuel2 := 1) (ds2 := [5, 4, 3, 2, 1, 0]) (fun e w => ∃ oo co od, e = [(1, .slice oM m.length cM), (2, .pointer (some ⟨b2, 0, none⟩)), (5, .slice oo 0 co), (13, .slice od atoms.length atoms.length)] ∧ SS G w0 G [.row oo 0 co 3 1 [], .row od atoms.length atoms.length 4 1 (List.replicate atoms.length (.bool false)), .blk b2 26 [.slice oA atoms.length cA, .slice oR rs.length cR]] w) (fun K1 => ?_) ?_
 ·
  skip
  refine al_two (i := 0) (j := 4) (by kernel_rfl) (fun a ha => ?_) (fun a ha => ?_)
  ·
   skip
   refine wpOp_of_opk (i := 0) rfl ha (op_buildSlice (el := 3) (is := []) (xs := []) (sz := 1) (cs := []) hS rfl rfl (fun w => by kernel_rfl) rfl (by decide)) ?_
   clear hS
   rintro _ w ⟨s9, rfl, hS⟩
   have hT := hT.back hS (by first | exact Le.refl _ | assumption) (fun x hx => by try simp only [List.take_succ_cons, List.take_zero, List.mem_cons, List.not_mem_nil, or_false] at hx; (rcases hx with rfl) <;> simp)
   refine ⟨fun _ _ => hT, ?_⟩
   refine al_at ?_ (ha.put (blt_lt rfl) _)
   refine al_take (i := 5) rfl (by kernel_rfl) (by kernel_rfl) (by kernel_rfl) rfl (fun _ _ _ h => h) (op_assign rfl) rfl ?_
   refine al_step (i := 4) rfl (by kernel_rfl) rfl (op_makeSlice (n := atoms.length) hS sl_49 el_4 rfl rfl rfl (by omega) (by unfold maxLen; omega)) ?_
   clear hS
   rintro _ w ⟨s13, rfl, hS⟩
   have hT := hT.back hS (by first | exact Le.refl _ | assumption) (fun x hx => by try simp only [List.take_succ_cons, List.take_zero, List.mem_cons, List.not_mem_nil, or_false] at hx; (rcases hx with rfl) <;> simp)
   refine ⟨fun _ _ => hT, ?_⟩
   exact K1 _ _ _ _ (by kernel_rfl) (by exact ⟨s9, _, s13, rfl, hS.perm (List.Perm.swap _ _ _)⟩) ((Sub.cons rfl (Sub.cons rfl (Sub.cons rfl (Sub.cons rfl Sub.nil)))))
  ·
   skip
   refine wpOp_of_opk (i := 4) rfl ha (op_makeSlice (n := atoms.length) hS sl_49 el_4 rfl rfl rfl (by omega) (by unfold maxLen; omega)) ?_
   clear hS
   rintro _ w ⟨s13, rfl, hS⟩
   have hT := hT.back hS (by first | exact Le.refl _ | assumption) (fun x hx => by try simp only [List.take_succ_cons, List.take_zero, List.mem_cons, List.not_mem_nil, or_false] at hx; (rcases hx with rfl) <;> simp)
   refine ⟨fun _ _ => hT, ?_⟩
   refine al_at ?_ (ha.put (blt_lt rfl) _)
   refine al_step (i := 0) rfl (by kernel_rfl) rfl (op_buildSlice (el := 3) (is := []) (xs := []) (sz := 1) (cs := []) hS rfl rfl (fun w => by kernel_rfl) rfl (by decide)) ?_
   clear hS
   rintro _ w ⟨s9, rfl, hS⟩
   have hT := hT.back hS (by first | exact Le.refl _ | assumption) (fun x hx => by try simp only [List.take_succ_cons, List.take_zero, List.mem_cons, List.not_mem_nil, or_false] at hx; (rcases hx with rfl) <;> simp)
   refine ⟨fun _ _ => hT, ?_⟩
   refine al_take (i := 5) rfl (by kernel_rfl) (by kernel_rfl) (by kernel_rfl) rfl (fun _ _ _ h => h) (op_assign rfl) rfl ?_
   exact K1 _ _ _ _ (by kernel_rfl) (by exact ⟨s9, _, s13, rfl, hS⟩) ((Sub.cons rfl (Sub.cons rfl (Sub.cons rfl (Sub.cons rfl Sub.nil)))))
 ·
  skip
  have hTo := hT
  clear hS hT
  rintro e w ⟨oo, co, od, rfl, hS⟩
  have hT := hTo.back hS (by first | exact Le.refl _ | assumption) (fun x hx => by try simp only [List.take_succ_cons, List.take_zero, List.mem_cons, List.not_mem_nil, or_false] at hx; (rcases hx with rfl) <;> simp)
  clear hTo
  refine al_take (i := 6) rfl (by kernel_rfl) (by kernel_rfl) (by kernel_rfl) rfl (fun _ _ _ h => h) (op_assign rfl) rfl ?_
  refine al_done (by kernel_rfl) ?_
  refine pq_then ?_
  refine cw_block ?_
  refine cw_loop (fun e w n => ∃ (f : Nat) (out heads : List Int) (oo : Option Addr) (co : Nat), e = [(1, .slice oM m.length cM), (2, .pointer (some ⟨b2, 0, none⟩)), (5, .slice oo out.length co), (6, .slice od atoms.length atoms.length)] ∧ f = n ∧ holdT atoms.length rs m = goT rs m f out heads ∧ out.length = heads.length ∧ heads.length + f = atoms.length + 1 ∧ heads.Nodup ∧ (∀ x ∈ heads, 0 ≤ x ∧ x < atoms.length) ∧ (∀ x ∈ out, 0 ≤ x ∧ x < rs.length) ∧ SS G w0 G [.row oo out.length co 3 1 (out.map (Value.int .i64)), .row od atoms.length atoms.length 4 1 ((marks atoms.length heads).map Value.bool), .blk b2 26 [.slice oA atoms.length cA, .slice oR rs.length cR]] w) _ _ (by exact ⟨atoms.length + 1, [], [], oo, co, rfl, rfl, rfl, rfl, by simp, List.nodup_nil, by simp, by simp, by rw [marks_nil, List.map_replicate]; exact hS⟩) ((Sub.cons rfl (Sub.cons rfl (Sub.cons rfl (Sub.cons rfl Sub.nil))))) ?_
  clear hS
  rintro e w n ⟨f, out, heads, oo, co, rfl, rfl, hgo, hol, hfl, hnd, hhr, hor, hS⟩
  have hhn0 := nodup_len hnd hhr
  obtain ⟨f, rfl⟩ : ∃ f2, f = f2 + 1 := ⟨f - 1, by omega⟩
  refine cw_block ?_
  refine cw_seq ?_
  refine cw_region ?_
  refine ol_pure rfl (op_assign rfl) ?_
  refine ol_nil ?_
  refine pq_then ?_
  refine cw_seq ?_
  refine cw_seq ?_
  refine cw_region ?_
  refine ol_pure rfl (op_assign rfl) ?_
  refine ol_nil ?_
  refine pq_then ?_
  refine cw_block ?_
  refine cw_loop (fun e w n => ∃ (a : Int) (i : Nat), e = [(1, .slice oM m.length cM), (2, .pointer (some ⟨b2, 0, none⟩)), (5, .slice oo out.length co), (6, .slice od atoms.length atoms.length), (7, .int .i64 a), (8, .int .i64 (i : Nat))] ∧ i ≤ rs.length ∧ n = rs.length - i ∧ ((a = -1 ∧ ∀ (j : Nat) (hj : j < rs.length), j < i → supH m heads rs[j] = false) ∨ (a = findP (supH m heads) rs ∧ 0 ≤ findP (supH m heads) rs)) ∧ SS G w0 G [.row oo out.length co 3 1 (out.map (Value.int .i64)), .row od atoms.length atoms.length 4 1 ((marks atoms.length heads).map Value.bool), .blk b2 26 [.slice oA atoms.length cA, .slice oR rs.length cR]] w) _ _ (by exact ⟨-1, 0, rfl, Nat.zero_le _, rfl, .inl ⟨rfl, fun j _ h => absurd h (Nat.not_lt_zero _)⟩, hS⟩) ((Sub.cons rfl (Sub.cons rfl (Sub.cons rfl (Sub.cons rfl (Sub.cons rfl (Sub.cons rfl Sub.nil))))))) ?_
  clear hS
  rintro e w n ⟨a, i, rfl, hi, rfl, ha, hS⟩
  refine cw_seq ?_
  refine cw_seq ?_
  refine cw_region ?_
  refine ol_pure rfl (op_move rfl) ?_
  refine ol_pure rfl (op_fieldAddr fld_26_1 rfl) ?_
  refine ol_load rfl (op_load1 one_22 rfl (fun w hw => (hw.bcell (i := 2) rfl).trans rfl)) hS ?_
  refine ol_pure rfl (op_len sl_22 rfl rfl) ?_
  refine ol_pure rfl (op_lss rfl rfl) ?_
  refine ol_pure rfl (op_move rfl) ?_
  refine ol_split (fun h19 => ?_) (fun h19 => ?_)
  ·
   skip
   try simp only [decide_eq_true_eq, decide_eq_false_iff_not, Bool.not_eq_true', Bool.not_eq_false', Bool.not_eq_eq_eq_not, Bool.not_true, Bool.not_false] at h19
   refine ol_guard_pure rfl rfl rfl (op_move rfl) ?_
   refine ol_guard_pure rfl rfl rfl (op_lss rfl rfl) ?_
   refine ol_pure rfl (op_pick_t rfl rfl) ?_
   refine ol_nil ?_
   refine pq_then ?_
   refine cw_cond rfl (fun h22 => ?_) (fun h22 => ?_)
   ·
    skip
    try simp only [decide_eq_true_eq, decide_eq_false_iff_not, Bool.not_eq_true', Bool.not_eq_false', Bool.not_eq_eq_eq_not, Bool.not_true, Bool.not_false] at h22
    have hlt : i < rs.length := by omega
    have hk := hlt
    have hrk := (hP.rule _ (List.getElem_mem hk)).1
    obtain ⟨hoR, _, _, ⟨p, q, rfl, hp, hq, hhd⟩, hcells⟩ := h2.el hk
    obtain ⟨op, cp, hpe, hlp, hmp⟩ := hp.elim
    obtain ⟨oq, cq, hqe, hlq, hmq⟩ := hq.elim
    subst hpe
    subst hqe
    refine cw_skip ?_
    refine pq_then ?_
    refine cw_seq ?_
    refine cw_block ?_
    refine cw_seq ?_
    refine cw_region ?_
    refine ol_pure rfl (op_move rfl) ?_
    refine ol_pure rfl (op_move rfl) ?_
    refine ol_pure rfl (op_fieldAddr fld_26_1 rfl) ?_
    refine ol_load rfl (op_load1 one_22 rfl (fun w hw => (hw.bcell (i := 2) rfl).trans rfl)) hS ?_
    refine ol_pure rfl (op_move rfl) ?_
    refine ol_pure rfl (op_indexN sl_22 rfl rfl (by omega) hoR) ?_
    refine ol_load rfl (op_loadN agg_30 rfl (by rfl) (fun w hw k u hk => hw.gcell (hcells k u hk))) hS ?_
    have hlendD := SS.lend (zs := marks atoms.length heads) [_] hS (by decide) EBool.mono (Rows.boolsG _ _) (by rw [marks_len])
    refine ol_step rfl (op_call_sc hS cf_26 rfl (R21_Holds_c (fullG _) _ (Holds.full _) _ m (h3.mono EInt.mono hS.hold.le_full) _ (marks atoms.length heads) hlendD (by rw [marks_len, hm]) rs[i] _ _ (hp.mono EInt.mono hS.hold.le_full) (hq.mono EInt.mono hS.hold.le_full) (hm ▸ hrk))) ?_
    clear hS
    rintro _ w ⟨rfl, hS⟩
    refine ol_nil ?_
    refine pq_then ?_
    refine cw_cond rfl (fun h32 => ?_) (fun h32 => ?_)
    ·
     skip
     try simp only [decide_eq_true_eq, decide_eq_false_iff_not, Bool.not_eq_true', Bool.not_eq_false', Bool.not_eq_eq_eq_not, Bool.not_true, Bool.not_false] at h32
     rw [supD_marks (n := atoms.length) hrk] at h32
     refine cw_region ?_
     refine ol_pure rfl (op_move rfl) ?_
     refine ol_pure rfl (op_assign rfl) ?_
     refine ol_nil ?_
     refine pq_in_normal ?_
     refine pq_then ?_
     refine cw_region ?_
     refine ol_pure rfl (op_move rfl) ?_
     refine ol_pure rfl (op_add rfl rfl (by omega) (by omega)) ?_
     refine ol_pure rfl (op_assign rfl) ?_
     refine ol_nil ?_
     refine pq_loop _ _ (by exact ⟨(i : Int), i + 1, rfl, by omega, rfl, .inr (by
           have hno : ∀ (j : Nat) (hj : j < rs.length), j < i → supH m heads rs[j] = false := by rcases ha with ⟨_, h9⟩ | ⟨h8, h9⟩; exact h9; exact absurd h22 (by omega)
           have hf := findP_at hlt h32 hno
           exact ⟨hf.symm, by omega⟩), hS⟩) ((Sub.cons rfl (Sub.cons rfl (Sub.cons rfl (Sub.cons rfl (Sub.cons rfl (Sub.cons rfl Sub.nil))))))) (by omega)
    ·
     skip
     try simp only [decide_eq_true_eq, decide_eq_false_iff_not, Bool.not_eq_true', Bool.not_eq_false', Bool.not_eq_eq_eq_not, Bool.not_true, Bool.not_false] at h32
     rw [supD_marks (n := atoms.length) hrk] at h32
     refine cw_skip ?_
     refine pq_in_normal ?_
     refine pq_then ?_
     refine cw_region ?_
     refine ol_pure rfl (op_move rfl) ?_
     refine ol_pure rfl (op_add rfl rfl (by omega) (by omega)) ?_
     refine ol_pure rfl (op_assign rfl) ?_
     refine ol_nil ?_
     refine pq_loop _ _ (by exact ⟨a, i + 1, rfl, by omega, rfl, (by
           rcases ha with ⟨h8, h9⟩ | h9
           · exact .inl ⟨h8, fun j hj hji => by rcases Nat.lt_succ_iff_lt_or_eq.1 hji with hh | rfl; exact h9 j hj hh; simpa using h32⟩
           · exact .inr h9), hS⟩) ((Sub.cons rfl (Sub.cons rfl (Sub.cons rfl (Sub.cons rfl (Sub.cons rfl (Sub.cons rfl Sub.nil))))))) (by omega)
   ·
    skip
    try simp only [decide_eq_true_eq, decide_eq_false_iff_not, Bool.not_eq_true', Bool.not_eq_false', Bool.not_eq_eq_eq_not, Bool.not_true, Bool.not_false] at h22
    refine cw_exit ?_
    refine pq_exit ?_
    refine pq_exit ?_
    refine pq_in_exit ?_
    refine pq_then ?_
    refine cw_seq ?_
    refine cw_seq ?_
    refine cw_region ?_
    refine ol_pure rfl (op_move rfl) ?_
    refine ol_pure rfl (op_lss rfl rfl) ?_
    refine ol_nil ?_
    refine pq_then ?_
    refine cw_cond rfl (fun h35 => ?_) (fun h35 => ?_)
    ·
     skip
     try simp only [decide_eq_true_eq, decide_eq_false_iff_not, Bool.not_eq_true', Bool.not_eq_false', Bool.not_eq_eq_eq_not, Bool.not_true, Bool.not_false] at h35
     refine cw_seq ?_
     refine cw_region ?_
     refine ol_pure rfl (op_move rfl) ?_
     refine ol_pure rfl (op_assign rfl) ?_
     refine ol_nil ?_
     refine pq_then ?_
     refine cw_ret ?_
     refine pq_ret ?_
     refine pq_in_ret ?_
     refine pq_ret ?_
     refine pq_in_ret ?_
     refine ret1 rfl rfl ?_
     have hfn : findP (supH m heads) rs < 0 := by
       rcases ha with ⟨h8, h9⟩ | ⟨h8, h9⟩
       · by_cases hil : i < rs.length
         · simp_all
         · rw [findP_none (by omega) h9]; decide
       · omega
     rw [goT_end hfn] at hgo
     exact hS.rt_row (zs := holdT atoms.length rs m) [] (by decide) (by rw [hgo]; exact Rows.ints (l := out) fun x hx => by have := hor x hx; omega) EInt.mono (by rw [hgo])
    ·
     skip
     try simp only [decide_eq_true_eq, decide_eq_false_iff_not, Bool.not_eq_true', Bool.not_eq_false', Bool.not_eq_eq_eq_not, Bool.not_true, Bool.not_false] at h35
     have hfa : findP (supH m heads) rs = a := by
       rcases ha with ⟨ha, _⟩ | ⟨ha, _⟩
       · omega
       · exact ha.symm
     obtain ⟨k, hfk⟩ := Int.eq_ofNat_of_zero_le (show 0 ≤ a by omega)
     obtain ⟨hk, hpk, hno⟩ := findP_spec (hfa.trans hfk)
     have hrk := (hP.rule _ (List.getElem_mem hk)).1
     obtain ⟨hoR, _, _, ⟨p, q, rfl, hp, hq, hhd⟩, hcells⟩ := h2.el hk
     obtain ⟨op, cp, hpe, hlp, hmp⟩ := hp.elim
     obtain ⟨oq, cq, hqe, hlq, hmq⟩ := hq.elim
     subst hpe
     subst hqe
     have hnew := supH_new hpk
     have hhl := nodup_snoc hnd hnew
     have hhr2 := mem_snoc_range hhr hrk.1
     have hhn := nodup_len hhl hhr2
     simp only [List.length_append, List.length_cons, List.length_nil] at hhn
     have hgo2 := goT_go (rs := rs) (m := m) (f := f) (out := out) hk (hfa.trans hfk)
     obtain ⟨hd0, hhe⟩ := Int.eq_ofNat_of_zero_le hrk.1.1
     have hdn : hd0 < (marks atoms.length heads).length := by rw [marks_len]; have := hrk.1.2; omega
     have hoD := (hS.news (j := 1) rfl (hd0 * 1) (.bool (marks atoms.length heads)[hd0]) (by simp [hdn])).1
     rw [hfk]
     refine cw_skip ?_
     refine pq_then ?_
     refine cw_seq ?_
     refine cw_region ?_
     refine ol_pure rfl (op_move rfl) ?_
     refine ol_pure rfl (op_fieldAddr fld_26_1 rfl) ?_
     refine ol_load rfl (op_load1 one_22 rfl (fun w hw => (hw.bcell (i := 2) rfl).trans rfl)) hS ?_
     refine ol_pure rfl (op_move rfl) ?_
     refine ol_pure rfl (op_indexN sl_22 rfl rfl (by omega) hoR) ?_
     refine ol_pure rfl (op_fieldAddr fld_30_0 rfl) ?_
     refine ol_load rfl (op_load1 one_3 rfl (fun w hw => hw.gcell0 (hcells 0 _ rfl))) hS ?_
     refine ol_pure rfl (op_val (op_indexAddr sl_49 rfl rfl (by omega) (by have := hrk.1.2; omega) hoD) (v' := .pointer (some (elA od (hd0 * 1)))) (by rw [hhe]; rfl)) ?_
     refine ol_step0  (op_storeR (j := 1) (k := hd0 * 1) hS sz_4 rfl rfl rfl rfl (by simpa using hdn)) ?_
     clear hS
     rintro _ w hS; (try simp only [List.nil_append, List.cons_append, List.set] at hS)
     rw [Nat.mul_one, ← List.map_set, show (marks atoms.length heads).set hd0 true = marks atoms.length (heads ++ [rs[k].head]) from by rw [← marks_add hrk.1.1, hhe]; rfl] at hS
     refine ol_nil ?_
     refine pq_then ?_
     refine cw_region ?_
     refine ol_pure rfl (op_move rfl) ?_
     refine ol_pure rfl (op_move rfl) ?_
     refine ol_step rfl (op_buildSlice (el := 3) (is := [0]) (xs := [.tmp 46]) (sz := 1) (cs := [.int .i64 (k : Nat)]) hS rfl rfl (fun w => by kernel_rfl) rfl (by decide)) ?_
     clear hS
     rintro _ w ⟨s47, rfl, hS⟩
     refine ol_step rfl (op_append (j := 1) hS sl_28 el_3 rfl rfl rfl rfl rfl rfl (by decide) (hS.news (j := 0) rfl) (by simp [Value.oneCell']) (by omega) (by unfold maxLen; omega)) ?_
     clear hS
     rintro _ w ⟨oon, c_oon, rfl, hS⟩; (try simp only [List.nil_append, List.cons_append, List.set] at hS); replace hS := SS.drop [] hS; (try simp only [List.nil_append, List.cons_append] at hS)
     refine ol_pure rfl (op_assign rfl) ?_
     refine ol_nil ?_
     refine pq_in_normal ?_
     refine pq_loop _ _ (by exact ⟨f, out ++ [(k : Int)], heads ++ [rs[k].head], oon, c_oon, by rw [List.length_append], rfl, by rw [hgo, hgo2], by simp; omega, by simp; omega, hhl, hhr2, mem_snoc_range hor ⟨by omega, by omega⟩, by rw [List.length_append, List.map_append]; exact hS⟩) ((Sub.cons rfl (Sub.cons rfl (Sub.cons rfl (Sub.cons rfl Sub.nil))))) (by omega)
  ·
   skip
   try simp only [decide_eq_true_eq, decide_eq_false_iff_not, Bool.not_eq_true', Bool.not_eq_false', Bool.not_eq_eq_eq_not, Bool.not_true, Bool.not_false] at h19
   refine ol_guard_no rfl rfl rfl rfl ?_
   refine ol_guard_no rfl rfl rfl rfl ?_
   refine ol_pure rfl (op_pick_f rfl rfl) ?_
   refine ol_nil ?_
   refine pq_then ?_
   refine cw_cond_f rfl ?_
   refine cw_exit ?_
   refine pq_exit ?_
   refine pq_exit ?_
   refine pq_in_exit ?_
   refine pq_then ?_
   refine cw_seq ?_
   refine cw_seq ?_
   refine cw_region ?_
   refine ol_pure rfl (op_move rfl) ?_
   refine ol_pure rfl (op_lss rfl rfl) ?_
   refine ol_nil ?_
   refine pq_then ?_
   refine cw_cond rfl (fun h35 => ?_) (fun h35 => ?_)
   ·
    skip
    try simp only [decide_eq_true_eq, decide_eq_false_iff_not, Bool.not_eq_true', Bool.not_eq_false', Bool.not_eq_eq_eq_not, Bool.not_true, Bool.not_false] at h35
    refine cw_seq ?_
    refine cw_region ?_
    refine ol_pure rfl (op_move rfl) ?_
    refine ol_pure rfl (op_assign rfl) ?_
    refine ol_nil ?_
    refine pq_then ?_
    refine cw_ret ?_
    refine pq_ret ?_
    refine pq_in_ret ?_
    refine pq_ret ?_
    refine pq_in_ret ?_
    refine ret1 rfl rfl ?_
    have hfn : findP (supH m heads) rs < 0 := by
      rcases ha with ⟨h8, h9⟩ | ⟨h8, h9⟩
      · by_cases hil : i < rs.length
        · simp_all
        · rw [findP_none (by omega) h9]; decide
      · omega
    rw [goT_end hfn] at hgo
    exact hS.rt_row (zs := holdT atoms.length rs m) [] (by decide) (by rw [hgo]; exact Rows.ints (l := out) fun x hx => by have := hor x hx; omega) EInt.mono (by rw [hgo])
   ·
    skip
    try simp only [decide_eq_true_eq, decide_eq_false_iff_not, Bool.not_eq_true', Bool.not_eq_false', Bool.not_eq_eq_eq_not, Bool.not_true, Bool.not_false] at h35
    have hfa : findP (supH m heads) rs = a := by
      rcases ha with ⟨ha, _⟩ | ⟨ha, _⟩
      · omega
      · exact ha.symm
    obtain ⟨k, hfk⟩ := Int.eq_ofNat_of_zero_le (show 0 ≤ a by omega)
    obtain ⟨hk, hpk, hno⟩ := findP_spec (hfa.trans hfk)
    have hrk := (hP.rule _ (List.getElem_mem hk)).1
    obtain ⟨hoR, _, _, ⟨p, q, rfl, hp, hq, hhd⟩, hcells⟩ := h2.el hk
    obtain ⟨op, cp, hpe, hlp, hmp⟩ := hp.elim
    obtain ⟨oq, cq, hqe, hlq, hmq⟩ := hq.elim
    subst hpe
    subst hqe
    have hnew := supH_new hpk
    have hhl := nodup_snoc hnd hnew
    have hhr2 := mem_snoc_range hhr hrk.1
    have hhn := nodup_len hhl hhr2
    simp only [List.length_append, List.length_cons, List.length_nil] at hhn
    have hgo2 := goT_go (rs := rs) (m := m) (f := f) (out := out) hk (hfa.trans hfk)
    obtain ⟨hd0, hhe⟩ := Int.eq_ofNat_of_zero_le hrk.1.1
    have hdn : hd0 < (marks atoms.length heads).length := by rw [marks_len]; have := hrk.1.2; omega
    have hoD := (hS.news (j := 1) rfl (hd0 * 1) (.bool (marks atoms.length heads)[hd0]) (by simp [hdn])).1
    rw [hfk]
    refine cw_skip ?_
    refine pq_then ?_
    refine cw_seq ?_
    refine cw_region ?_
    refine ol_pure rfl (op_move rfl) ?_
    refine ol_pure rfl (op_fieldAddr fld_26_1 rfl) ?_
    refine ol_load rfl (op_load1 one_22 rfl (fun w hw => (hw.bcell (i := 2) rfl).trans rfl)) hS ?_
    refine ol_pure rfl (op_move rfl) ?_
    refine ol_pure rfl (op_indexN sl_22 rfl rfl (by omega) hoR) ?_
    refine ol_pure rfl (op_fieldAddr fld_30_0 rfl) ?_
    refine ol_load rfl (op_load1 one_3 rfl (fun w hw => hw.gcell0 (hcells 0 _ rfl))) hS ?_
    refine ol_pure rfl (op_val (op_indexAddr sl_49 rfl rfl (by omega) (by have := hrk.1.2; omega) hoD) (v' := .pointer (some (elA od (hd0 * 1)))) (by rw [hhe]; rfl)) ?_
    refine ol_step0  (op_storeR (j := 1) (k := hd0 * 1) hS sz_4 rfl rfl rfl rfl (by simpa using hdn)) ?_
    clear hS
    rintro _ w hS; (try simp only [List.nil_append, List.cons_append, List.set] at hS)
    rw [Nat.mul_one, ← List.map_set, show (marks atoms.length heads).set hd0 true = marks atoms.length (heads ++ [rs[k].head]) from by rw [← marks_add hrk.1.1, hhe]; rfl] at hS
    refine ol_nil ?_
    refine pq_then ?_
    refine cw_region ?_
    refine ol_pure rfl (op_move rfl) ?_
    refine ol_pure rfl (op_move rfl) ?_
    refine ol_step rfl (op_buildSlice (el := 3) (is := [0]) (xs := [.tmp 46]) (sz := 1) (cs := [.int .i64 (k : Nat)]) hS rfl rfl (fun w => by kernel_rfl) rfl (by decide)) ?_
    clear hS
    rintro _ w ⟨s47, rfl, hS⟩
    refine ol_step rfl (op_append (j := 1) hS sl_28 el_3 rfl rfl rfl rfl rfl rfl (by decide) (hS.news (j := 0) rfl) (by simp [Value.oneCell']) (by omega) (by unfold maxLen; omega)) ?_
    clear hS
    rintro _ w ⟨oon, c_oon, rfl, hS⟩; (try simp only [List.nil_append, List.cons_append, List.set] at hS); replace hS := SS.drop [] hS; (try simp only [List.nil_append, List.cons_append] at hS)
    refine ol_pure rfl (op_assign rfl) ?_
    refine ol_nil ?_
    refine pq_in_normal ?_
    refine pq_loop _ _ (by exact ⟨f, out ++ [(k : Int)], heads ++ [rs[k].head], oon, c_oon, by rw [List.length_append], rfl, by rw [hgo, hgo2], by simp; omega, by simp; omega, hhl, hhr2, mem_snoc_range hor ⟨by omega, by omega⟩, by rw [List.length_append, List.map_append]; exact hS⟩) ((Sub.cons rfl (Sub.cons rfl (Sub.cons rfl (Sub.cons rfl Sub.nil))))) (by omega)
set_option maxRecDepth 100000 in
set_option maxHeartbeats 2000000 in

theorem R21_Why_c (G : GH) (w0 : World) (hG : Holds G w0) {α : Type} {E : ER α} (hE : EMono E) (va vr : Value) (atoms : List α) (rs : List Rule) (h1 : RSl 1 E G va atoms) (h2 : RSl 3 ERule G vr rs) (hP : PrOk atoms.length rs)  :
   Calls Try.prog 15 #[.agg #[va, vr]] w0 (Rt G w0 (fun G v => ∃ vs vh, v = .agg #[vs, vh] ∧ RSl 2 EStep G vs (whyP atoms.length rs).1 ∧ RSl 1 EInt G vh (whyP atoms.length rs).2)) := by
 obtain ⟨oA, cA, rfl, hlA, hmA⟩ := h1.elim
 obtain ⟨oR, cR, rfl, hlR, hmR⟩ := h2.elim
 have hle1 := h1.le
 have hle2 := h2.le
 have hPn := hP.n_le
 have hPm := hP.m_le
 refine enter Try.func15 rfl (N := 92) rfl (Nat.le_of_ble_eq_true rfl) ?_
 have hS := SS.init hG
 refine cw_seq ?_
 refine cw_region ?_
 refine ol_step rfl (op_box hS rfl rfl) ?_
 clear hS
 rintro _ w ⟨b1, rfl, hS⟩
 refine ol_step rfl (op_alloc hS el_34 rfl) ?_
 clear hS
 rintro _ w ⟨res, rfl, hS⟩
 refine ol_nil ?_
 refine pq_then ?_
 refine cw_seq ?_
 refine cw_region ?_
 refine ol_pure rfl (op_build (is := []) (xs := []) (v := .agg #[.slice none 0 0, .slice none 0 0]) rfl rfl (fun w => by kernel_rfl)) ?_
 refine ol_load rfl (op_loadN agg_26 rfl (by rfl) (fun w hw k u hk => (hw.bcell (i := 1) rfl).trans hk)) hS ?_
 refine ol_step rfl (op_call cf_23 rfl (R21_Own_c hS _ _ atoms h1 ⟨_, _, _, rfl⟩ (by omega))) ?_
 clear hS
 rintro _ w ⟨oM, cM, rfl, hS⟩
 refine ol_step rfl (op_alloc hS el_34 rfl) ?_
 clear hS
 rintro _ w ⟨b3, rfl, hS⟩
 refine ol_step0  (op_storeN (j := 0) hS sz_34 rfl rfl rfl rfl rfl (by simp [Value.oneCell'])) ?_
 clear hS
 rintro _ w hS; (try simp only [List.nil_append, List.cons_append, List.set] at hS)
 refine ol_pure rfl (op_assign rfl) ?_
 refine ol_nil ?_
 refine pq_then ?_
 refine cw_seq ?_
 refine cw_block ?_
 replace hS := SS.ins [_, _] hS 37 2
 replace hS := hS.perm (List.perm_middle (l₁ := [_, _, _, _])) |>.perm (List.Perm.swap _ _ _)
 (try simp only [List.cons_append, List.nil_append] at hS)
 refine cw_loop (fun e w n => ∃ (f : Nat) (l : List Step) (m : List Int) (us : List Value) (Gk : GH) (os : Option Addr) (cs : Nat), e = [(1, .pointer (some ⟨b1, 0, none⟩)), (2, .pointer (some ⟨res, 0, none⟩)), (3, .pointer (some ⟨b3, 0, none⟩)), (4, .slice oM atoms.length cM)] ∧ f = n ∧ stepsI atoms.length rs = goS atoms.length rs f l m ∧ Built atoms.length rs l m ∧ atoms.length < f + cntB (toldB atoms.length m) ∧ Le G Gk ∧ Rows 2 EStep Gk us l ∧ l.length + f ≤ atoms.length + 1 ∧ SS G w0 Gk [.blk b3 34 [.slice os l.length cs, .slice none 0 0], .blk b1 26 [.slice oA atoms.length cA, .slice oR rs.length cR], .row oM atoms.length cM 3 1 (m.map (Value.int .i64)), .row os l.length cs 37 2 us, .blk res 34 [.slice none 0 0, .slice none 0 0]] w) _ _ (by exact ⟨atoms.length + 1, [], startI atoms.length, [], G, none, 0, rfl, rfl, rfl, start_built _ _, by omega, Le.refl _, Rows.nil _, by simp, hS⟩) ((Sub.cons rfl (Sub.cons rfl (Sub.cons rfl (Sub.cons rfl Sub.nil))))) ?_
 clear hS
 rintro e w n ⟨f, l, m, us, Gk, os, cs, rfl, rfl, hgo, hbu, hfu, hlk, hus, hlf, hS⟩
 have hm := hbu.sound.len
 have hmv : ∀ x ∈ m, 0 ≤ x ∧ x ≤ 2 := by have := partly_mem (rs := rs) l (startI_mem (n := atoms.length)); rw [hbu.part] at this; exact this
 have hcl := cntB_le (toldB atoms.length m)
 simp only [toldB, soB, List.length_map, List.length_range] at hcl
 obtain ⟨f, rfl⟩ : ∃ f2, f = f2 + 1 := ⟨f - 1, by simp only [toldB, soB] at hfu; omega⟩
 refine cw_block ?_
 refine cw_seq ?_
 refine cw_region ?_
 refine ol_load rfl (op_loadN agg_26 rfl (by rfl) (fun w hw k u hk => (hw.bcell (i := 1) rfl).trans hk)) hS ?_
 refine ol_pure rfl (op_move rfl) ?_
 have hlendM := SS.lend (zs := m) [_, _] hS (by decide) EInt.mono ((Rows.ints (l := m) fun x hx => by have := hmv x hx; omega).mono EInt.mono (fun b o hb => by cases hb)) hm.symm
 refine ol_step rfl (op_call_sc hS cf_50 rfl (R21_so_c (fullG _) _ (Holds.full _) hE _ _ atoms rs (h1.mono hE (hlk.trans hS.hold.le_full)) (h2.mono ERule.mono (hlk.trans hS.hold.le_full)) hP _ m hlendM hm)) ?_
 clear hS
 rintro _ w ⟨rfl, hS⟩
 refine ol_pure rfl (op_assign rfl) ?_
 refine ol_nil ?_
 refine pq_then ?_
 refine cw_seq ?_
 refine cw_seq ?_
 refine cw_region ?_
 refine ol_pure rfl (op_move rfl) ?_
 refine ol_pure rfl (op_geq rfl rfl) ?_
 refine ol_nil ?_
 refine pq_then ?_
 refine cw_cond rfl (fun h17 => ?_) (fun h17 => ?_)
 ·
  skip
  try simp only [decide_eq_true_eq, decide_eq_false_iff_not, Bool.not_eq_true', Bool.not_eq_false', Bool.not_eq_eq_eq_not, Bool.not_true, Bool.not_false] at h17
  obtain ⟨k, hfk⟩ := Int.eq_ofNat_of_zero_le h17
  obtain ⟨hk, hpk, hno⟩ := findP_spec hfk
  have hrk := (hP.rule _ (List.getElem_mem hk)).1
  obtain ⟨hoR, _, _, ⟨p, q, rfl, hp, hq, hhd⟩, hcells⟩ := h2.el hk
  obtain ⟨op, cp, hpe, hlp, hmp⟩ := hp.elim
  obtain ⟨oq, cq, hqe, hlq, hmq⟩ := hq.elim
  subst hpe
  subst hqe
  obtain ⟨hd0, hhe⟩ := Int.eq_ofNat_of_zero_le hrk.1.1
  have hdn : hd0 < m.length := by have := hrk.1.2; omega
  rw [hfk]
  refine cw_seq ?_
  refine al_start' hS (hS.take 2) (by kernel_rfl) rfl (fun w hS hT => ?_)
  refine al_take (i := 0) rfl (by kernel_rfl) (by kernel_rfl) (by kernel_rfl) rfl (fun _ _ _ h => h) (op_fieldAddr fld_34_0 rfl) rfl ?_
  refine al_load (i := 1) rfl (by kernel_rfl) (by kernel_rfl) (by kernel_rfl) rfl (fun _ _ _ h => h) (by exact op_load1 one_32 rfl (fun w hw => (hw.bcell (i := 0) rfl).trans rfl)) rfl hT ?_
  refine al_take (i := 2) rfl (by kernel_rfl) (by kernel_rfl) (by kernel_rfl) rfl (fun _ _ _ h => h) (op_move rfl) rfl ?_
  refine al_take (i := 3) rfl (by kernel_rfl) (by kernel_rfl) (by kernel_rfl) rfl (fun _ _ _ h => h) (op_fieldAddr fld_26_1 rfl) rfl ?_
  refine al_load (i := 4) rfl (by kernel_rfl) (by kernel_rfl) (by kernel_rfl) rfl (fun _ _ _ h => h) (by exact op_load1 one_22 rfl (fun w hw => (hw.bcell (i := 1) rfl).trans rfl)) rfl hT ?_
  refine al_take (i := 5) rfl (by kernel_rfl) (by kernel_rfl) (by kernel_rfl) rfl (fun _ _ _ h => h) (op_move rfl) rfl ?_
  refine al_take (i := 6) rfl (by kernel_rfl) (by kernel_rfl) (by kernel_rfl) rfl (fun _ _ _ h => h) (op_indexN sl_22 rfl rfl (by omega) hoR) rfl ?_
  refine al_take (i := 7) rfl (by kernel_rfl) (by kernel_rfl) (by kernel_rfl) rfl (fun _ _ _ h => h) (op_fieldAddr fld_30_0 rfl) rfl ?_
  refine al_load (i := 8) rfl (by kernel_rfl) (by kernel_rfl) (by kernel_rfl) rfl (fun _ _ _ h => h) (by exact op_load1 one_3 rfl (fun w hw => hw.gcell (hlk.cell (hcells 0 _ rfl)))) rfl hT ?_
  refine al_step (i := 9) rfl (by kernel_rfl) rfl (op_buildSlice (el := 3) (is := [0]) (xs := [.tmp 26]) (sz := 1) (cs := [.int .i64 rs[k].head]) hS rfl rfl (fun w => by kernel_rfl) rfl (by decide)) ?_
  clear hS
  rintro _ w ⟨s27, rfl, hS⟩
  obtain ⟨G27, hl27, hS27, hR27⟩ := SS.give' [rs[k].head] [] EInt.mono hS (by decide) (oneInt _ _ hhd) rfl
  clear hS
  have hS := hS27
  clear hS27
  simp only [List.nil_append] at hS
  have hT := hT.back hS (by first | exact Le.refl _ | assumption) (fun x hx => by try simp only [List.take_succ_cons, List.take_zero, List.mem_cons, List.not_mem_nil, or_false] at hx; (rcases hx with rfl | rfl) <;> simp)
  refine ⟨fun _ _ => hT, ?_⟩
  refine al_take (i := 10) rfl (by kernel_rfl) (by kernel_rfl) (by kernel_rfl) rfl (fun _ _ _ h => h) (op_build (is := [0, 1]) (xs := [.tmp 20, .tmp 27]) (v := .agg #[.int .i64 (k : Nat), .slice s27 1 1]) rfl rfl (fun w => by kernel_rfl)) rfl ?_
  refine al_step (i := 11) rfl (by kernel_rfl) rfl (op_buildSlice (el := 37) (is := [0]) (xs := [.tmp 28]) (sz := 2) (cs := [.int .i64 (k : Nat), .slice s27 1 1]) hS rfl rfl (fun w => by kernel_rfl) rfl (by decide)) ?_
  clear hS
  rintro _ w ⟨s29, rfl, hS⟩
  have hT := hT.back hS (by first | exact Le.refl _ | assumption) (fun x hx => by try simp only [List.take_succ_cons, List.take_zero, List.mem_cons, List.not_mem_nil, or_false] at hx; (rcases hx with rfl | rfl) <;> simp)
  refine ⟨fun _ _ => hT, ?_⟩
  refine al_step (i := 12) rfl (by kernel_rfl) rfl (op_append (j := 4) hS sl_32 el_37 rfl rfl rfl rfl rfl rfl (by decide) (hS.news (j := 0) rfl) (by simp [Value.oneCell']) (by omega) (by unfold maxLen; omega)) ?_
  clear hS
  rintro _ w ⟨stepsn, c_stepsn, rfl, hS⟩; (try simp only [List.nil_append, List.cons_append, List.set] at hS); replace hS := SS.drop [] hS; (try simp only [List.nil_append, List.cons_append] at hS)
  have hT := hT.back hS (by first | exact Le.refl _ | assumption) (fun x hx => by try simp only [List.take_succ_cons, List.take_zero, List.mem_cons, List.not_mem_nil, or_false] at hx; (rcases hx with rfl | rfl) <;> simp)
  refine ⟨fun _ _ => hT, ?_⟩
  refine al_take (i := 13) rfl (by kernel_rfl) (by kernel_rfl) (by kernel_rfl) rfl (fun _ _ _ h => h) (op_fieldAddr fld_34_0 rfl) rfl ?_
  refine al_step0 (i := 14) rfl (by kernel_rfl) (op_storeB (j := 0) (k := 0) hS sz_32 rfl rfl rfl rfl (by simp)) ?_
  clear hS
  rintro _ w hS; (try simp only [List.nil_append, List.cons_append, List.set] at hS)
  refine ⟨no_need (by kernel_rfl), ?_⟩
  refine al_done (by kernel_rfl) ?_
  refine pq_then ?_
  refine cw_seq ?_
  have hoM := (hS.news (j := 2) rfl (hd0 * 1) (.int .i64 (m.getD hd0 0)) (by simp [hdn])).1
  refine cw_region ?_
  refine ol_pure rfl (op_move rfl) ?_
  refine ol_pure rfl (op_fieldAddr fld_26_1 rfl) ?_
  refine ol_load rfl (op_load1 one_22 rfl (fun w hw => (hw.bcell (i := 1) rfl).trans rfl)) hS ?_
  refine ol_pure rfl (op_move rfl) ?_
  refine ol_pure rfl (op_indexN sl_22 rfl rfl (by omega) hoR) ?_
  refine ol_pure rfl (op_fieldAddr fld_30_0 rfl) ?_
  refine ol_load rfl (op_load1 one_3 rfl (fun w hw => hw.gcell0 (hcells 0 _ rfl))) hS ?_
  refine ol_pure rfl (op_val (op_indexAddr sl_28 rfl rfl (by omega) (by have := hrk.1.2; omega) hoM) (v' := .pointer (some (elA oM (hd0 * 1)))) (by rw [hhe]; rfl)) ?_
  refine ol_step0  (op_storeR (j := 2) (k := hd0 * 1) hS sz_3 rfl rfl rfl rfl (by simpa using hdn)) ?_
  clear hS
  rintro _ w hS; (try simp only [List.nil_append, List.cons_append, List.set] at hS)
  refine ol_nil ?_
  refine pq_then ?_
  refine cw_exit ?_
  refine pq_exit ?_
  refine pq_in_exit ?_
  refine pq_loop _ _ (by exact (by
      have hst := fire_step hP hm hk hfk
      have htl := told_lt (n := atoms.length) hm (stepOk_set hst)
      have he : tellI m ⟨(k : Int), [rs[k].head]⟩ = setAll m [rs[k].head] 2 := by
        unfold tellI
        rw [if_pos (by show (0 : Int) ≤ k; omega)]
      have he2 : setAll m [rs[k].head] 2 = m.set hd0 2 := by show m.set rs[k].head.toNat 2 = _; rw [hhe]; rfl
      refine ⟨f, l ++ [⟨(k : Int), [rs[k].head]⟩], setAll m [rs[k].head] 2, _, G27, stepsn, c_stepsn, rfl, rfl, ?_, ?_, ?_, hlk.trans hl27, stepRow (hus.mono EStep.mono hl27) hR27 (by omega), by simp; omega, by rw [List.length_append, he2, List.map_set]; rw [Nat.mul_one] at hS; exact hS⟩
      · rw [hgo, goS_fire hk hfk]; rfl
      · rw [← he]; exact hbu.add hP hst
      · rw [← he]; omega)) ((Sub.cons rfl (Sub.cons rfl (Sub.cons rfl (Sub.cons rfl Sub.nil))))) (by omega)
 ·
  skip
  try simp only [decide_eq_true_eq, decide_eq_false_iff_not, Bool.not_eq_true', Bool.not_eq_false', Bool.not_eq_eq_eq_not, Bool.not_true, Bool.not_false] at h17
  have hfi : fireI rs m < 0 := by omega
  refine cw_skip ?_
  refine pq_then ?_
  refine cw_seq ?_
  refine cw_region ?_
  refine ol_step rfl (op_buildSlice (el := 3) (is := []) (xs := []) (sz := 1) (cs := []) hS rfl rfl (fun w => by kernel_rfl) rfl (by decide)) ?_
  clear hS
  rintro _ w ⟨ol, rfl, hS⟩
  refine ol_load rfl (op_loadN agg_26 rfl (by rfl) (fun w hw k u hk => (hw.bcell (i := 2) rfl).trans hk)) hS ?_
  refine ol_pure rfl (op_move rfl) ?_
  have hlendM := SS.lend (zs := m) [_, _, _] hS (by decide) EInt.mono ((Rows.ints (l := m) fun x hx => by have := hmv x hx; omega).mono EInt.mono (fun b o hb => by cases hb)) hm.symm
  refine ol_step rfl (op_call_fr hS cf_51 rfl (R17_Unfounded_c (fullG _) _ (Holds.full _) hE _ _ atoms rs (h1.mono hE (hlk.trans hS.hold.le_full)) (h2.mono ERule.mono (hlk.trans hS.hold.le_full)) hP _ m hlendM)) ?_
  clear hS
  rintro v43 w ⟨F43, G43, hR43, hF43, hf43, hl43, hS⟩
  obtain ⟨o43, c43, rfl, _, _⟩ := hR43.elim
  have hU := hR43.mono EInt.mono hf43
  have hul := unf_len atoms.length rs m
  have hUle := hU.le
  refine ol_pure rfl (op_assign rfl) ?_
  refine ol_pure rfl (op_assign rfl) ?_
  refine ol_nil ?_
  refine pq_then ?_
  refine cw_seq ?_
  refine cw_seq ?_
  refine cw_region ?_
  refine ol_pure rfl (op_assign rfl) ?_
  refine ol_nil ?_
  refine pq_then ?_
  refine cw_block ?_
  refine cw_loop (fun e w n => ∃ (i ll : Nat) (ol : Option Addr) (cl : Nat), e = [(1, .pointer (some ⟨b1, 0, none⟩)), (2, .pointer (some ⟨res, 0, none⟩)), (3, .pointer (some ⟨b3, 0, none⟩)), (4, .slice oM atoms.length cM), (6, .slice ol ll cl), (7, .slice o43 (unfI atoms.length rs m).length c43), (8, .int .i64 (i : Nat))] ∧ i ≤ (unfI atoms.length rs m).length ∧ n = (unfI atoms.length rs m).length - i ∧ ll = (openF m ((unfI atoms.length rs m).take i)).length ∧ SS G w0 G43 (.row ol ll cl 3 1 ((openF m ((unfI atoms.length rs m).take i)).map (Value.int .i64)) :: [.blk b3 34 [.slice os l.length cs, .slice none 0 0], .blk b1 26 [.slice oA atoms.length cA, .slice oR rs.length cR], .row oM atoms.length cM 3 1 (m.map (Value.int .i64)), .row os l.length cs 37 2 us, .blk res 34 [.slice none 0 0, .slice none 0 0]]) w) _ _ (by exact ⟨0, 0, ol, _, rfl, Nat.zero_le _, rfl, rfl, hS⟩) ((Sub.cons rfl (Sub.cons rfl (Sub.cons rfl (Sub.cons rfl (Sub.cons rfl (Sub.cons rfl (Sub.cons rfl Sub.nil)))))))) ?_
  clear hS
  rintro e w n ⟨i, ll, ol, cl, rfl, hi, rfl, hll, hS⟩
  refine cw_seq ?_
  refine cw_seq ?_
  refine cw_region ?_
  refine ol_pure rfl (op_move rfl) ?_
  refine ol_pure rfl (op_move rfl) ?_
  refine ol_pure rfl (op_len sl_28 rfl rfl) ?_
  refine ol_pure rfl (op_lss rfl rfl) ?_
  refine ol_nil ?_
  refine pq_then ?_
  refine cw_cond rfl (fun h47 => ?_) (fun h47 => ?_)
  ·
   skip
   try simp only [decide_eq_true_eq, decide_eq_false_iff_not, Bool.not_eq_true', Bool.not_eq_false', Bool.not_eq_eq_eq_not, Bool.not_true, Bool.not_false] at h47
   have hlt : i < (unfI atoms.length rs m).length := by omega
   obtain ⟨hoU, hcU, hbU⟩ := hU.int hlt
   have hir := unf_range (List.getElem_mem hlt)
   obtain ⟨x, hx⟩ := Int.eq_ofNat_of_zero_le hir.1
   have hxm : x < m.length := by omega
   have hcm2 : (m.map (Value.int .i64))[x * 1]? = some (.int .i64 m[x]) := by simp [hxm]
   have hoM := (hS.news (j := 3) rfl _ _ hcm2).1
   have hvx : valI m (unfI atoms.length rs m)[i] = m[x] := by rw [hx]; exact val_at' hxm
   have hts := openF_take_succ (m := m) hlt hir.1 (by omega)
   have hol : (openF m ((unfI atoms.length rs m).take i)).length ≤ i := by
     unfold openF
     have := List.length_filter_le (fun a => decide (0 ≤ a) && decide (a < (m.length : Int)) && decide (valI m a = 1)) ((unfI atoms.length rs m).take i)
     simp only [List.length_take] at this
     omega
   refine cw_skip ?_
   refine pq_then ?_
   refine cw_seq ?_
   refine cw_block ?_
   refine cw_seq ?_
   refine cw_region ?_
   refine ol_pure rfl (op_move rfl) ?_
   refine ol_pure rfl (op_move rfl) ?_
   refine ol_pure rfl (op_move rfl) ?_
   refine ol_pure rfl (op_indexN sl_28 rfl rfl (by omega) (by assumption)) ?_
   refine ol_load rfl (op_load1 one_3 rfl (fun w hw => by first | exact hw.gcell (by assumption) | exact hw.gcell0 (by assumption))) hS ?_
   refine ol_pure rfl (op_val (op_indexAddr sl_28 rfl rfl (by omega) (by omega) hoM) (v' := .pointer (some (elA oM (x * 1)))) (by rw [hx]; rfl)) ?_
   refine ol_load rfl (op_load1 one_3 rfl (fun w hw => hw.rcell (i := 3) rfl hcm2)) hS ?_
   refine ol_pure rfl (op_eql rfl rfl) ?_
   refine ol_nil ?_
   refine pq_then ?_
   refine cw_cond rfl (fun h57 => ?_) (fun h57 => ?_)
   ·
    skip
    try simp only [decide_eq_true_eq, decide_eq_false_iff_not, Bool.not_eq_true', Bool.not_eq_false', Bool.not_eq_eq_eq_not, Bool.not_true, Bool.not_false] at h57
    refine cw_region ?_
    refine ol_pure rfl (op_move rfl) ?_
    refine ol_pure rfl (op_move rfl) ?_
    refine ol_pure rfl (op_move rfl) ?_
    refine ol_pure rfl (op_indexN sl_28 rfl rfl (by omega) (by assumption)) ?_
    refine ol_load rfl (op_load1 one_3 rfl (fun w hw => by first | exact hw.gcell (by assumption) | exact hw.gcell0 (by assumption))) hS ?_
    refine ol_step rfl (op_buildSlice (el := 3) (is := [0]) (xs := [.tmp 62]) (sz := 1) (cs := [.int .i64 (unfI atoms.length rs m)[i]]) hS rfl rfl (fun w => by kernel_rfl) rfl (by decide)) ?_
    clear hS
    rintro _ w ⟨s63, rfl, hS⟩
    refine ol_step rfl (op_append (j := 1) hS sl_28 el_3 rfl rfl rfl rfl rfl rfl (by decide) (hS.news (j := 0) rfl) (by simp [Value.oneCell']) (by omega) (by unfold maxLen; omega)) ?_
    clear hS
    rintro _ w ⟨oln, c_oln, rfl, hS⟩; (try simp only [List.nil_append, List.cons_append, List.set] at hS); replace hS := SS.drop [] hS; (try simp only [List.nil_append, List.cons_append] at hS)
    refine ol_pure rfl (op_assign rfl) ?_
    refine ol_nil ?_
    refine pq_in_normal ?_
    refine pq_then ?_
    refine cw_region ?_
    refine ol_pure rfl (op_move rfl) ?_
    refine ol_pure rfl (op_add rfl rfl (by omega) (by omega)) ?_
    refine ol_pure rfl (op_assign rfl) ?_
    refine ol_nil ?_
    refine pq_loop _ _ (by exact ⟨i + 1, ll + 1, oln, c_oln, rfl, by omega, rfl, by rw [hts, if_pos (by rw [hvx]; exact h57)]; simp [hll], by rw [hts, if_pos (by rw [hvx]; exact h57)]; simpa using hS⟩) ((Sub.cons rfl (Sub.cons rfl (Sub.cons rfl (Sub.cons rfl (Sub.cons rfl (Sub.cons rfl (Sub.cons rfl Sub.nil)))))))) (by omega)
   ·
    skip
    try simp only [decide_eq_true_eq, decide_eq_false_iff_not, Bool.not_eq_true', Bool.not_eq_false', Bool.not_eq_eq_eq_not, Bool.not_true, Bool.not_false] at h57
    refine cw_skip ?_
    refine pq_in_normal ?_
    refine pq_then ?_
    refine cw_region ?_
    refine ol_pure rfl (op_move rfl) ?_
    refine ol_pure rfl (op_add rfl rfl (by omega) (by omega)) ?_
    refine ol_pure rfl (op_assign rfl) ?_
    refine ol_nil ?_
    refine pq_loop _ _ (by exact ⟨i + 1, ll, ol, cl, rfl, by omega, rfl, by rw [hts, if_neg (by rw [hvx]; exact h57)]; simpa using hll, by rw [hts, if_neg (by rw [hvx]; exact h57)]; simpa using hS⟩) ((Sub.cons rfl (Sub.cons rfl (Sub.cons rfl (Sub.cons rfl (Sub.cons rfl (Sub.cons rfl (Sub.cons rfl Sub.nil)))))))) (by omega)
  ·
   skip
   try simp only [decide_eq_true_eq, decide_eq_false_iff_not, Bool.not_eq_true', Bool.not_eq_false', Bool.not_eq_eq_eq_not, Bool.not_true, Bool.not_false] at h47
   rw [List.take_of_length_le (show (unfI atoms.length rs m).length ≤ i by omega)] at hll hS
   subst hll
   refine cw_exit ?_
   refine pq_exit ?_
   refine pq_exit ?_
   refine pq_in_exit ?_
   refine pq_then ?_
   refine cw_seq ?_
   refine cw_seq ?_
   refine cw_region ?_
   refine ol_pure rfl (op_move rfl) ?_
   refine ol_pure rfl (op_len sl_28 rfl rfl) ?_
   refine ol_pure rfl (op_eql rfl rfl) ?_
   refine ol_nil ?_
   refine pq_then ?_
   refine cw_cond rfl (fun h67 => ?_) (fun h67 => ?_)
   ·
    skip
    try simp only [decide_eq_true_eq, decide_eq_false_iff_not, Bool.not_eq_true', Bool.not_eq_false', Bool.not_eq_eq_eq_not, Bool.not_true, Bool.not_false] at h67
    replace hS := SS.drop [] hS
    simp only [List.nil_append] at hS
    refine cw_exit ?_
    refine pq_exit ?_
    refine pq_in_other rfl ?_
    refine pq_exit ?_
    refine pq_in_exit ?_
    refine pq_then ?_
    refine cw_seq ?_
    refine cw_region ?_
    refine ol_load rfl (op_loadN agg_26 rfl (by rfl) (fun w hw k u hk => (hw.bcell (i := 1) rfl).trans hk)) hS ?_
    refine ol_pure rfl (op_move rfl) ?_
    have hlendM := SS.lend (zs := m) [_, _] hS (by decide) EInt.mono ((Rows.ints (l := m) fun x hx => by have := hmv x hx; omega).mono EInt.mono (fun b o hb => by cases hb)) hm.symm
    have hst := whyS_end hgo hfi (by omega)
    refine ol_step rfl (op_call_fr hS cf_52 rfl (R21_holds_c (fullG _) _ (Holds.full _) hE _ _ atoms rs (h1.mono hE ((hlk.trans hl43).trans hS.hold.le_full)) (h2.mono ERule.mono ((hlk.trans hl43).trans hS.hold.le_full)) hP _ m hlendM hm)) ?_
    clear hS
    rintro v89 w ⟨F89, G89, hR89, hF89, hf89, hl89, hS⟩
    obtain ⟨o89, c89, rfl, _, _⟩ := hR89.elim
    refine ol_pure rfl (op_fieldAddr fld_34_1 rfl) ?_
    refine ol_step0  (op_storeB (j := 0) (k := 1) hS sz_28 rfl rfl rfl rfl (by simp)) ?_
    clear hS
    rintro _ w hS; (try simp only [List.nil_append, List.cons_append, List.set] at hS)
    refine ol_nil ?_
    refine pq_then ?_
    refine cw_seq ?_
    refine cw_region ?_
    refine ol_load rfl (op_loadN agg_34 rfl (by rfl) (fun w hw k u hk => (hw.bcell (i := 0) rfl).trans hk)) hS ?_
    refine ol_step0  (op_storeN (j := 4) hS sz_34 rfl rfl rfl rfl rfl (by simp [Value.oneCell'])) ?_
    clear hS
    rintro _ w hS; (try simp only [List.nil_append, List.cons_append, List.set] at hS)
    refine ol_nil ?_
    refine pq_then ?_
    refine cw_ret ?_
    refine retN rfl agg_34 rfl (by rfl) (fun k u hk => (hS.bcell (i := 4) rfl).trans hk) ?_
    obtain ⟨G7, hl7, hS7, hR7⟩ := SS.give' l [_, _, _] EStep.mono hS (by decide) (hus.mono EStep.mono (hl43.trans hl89)) rfl
    refine hS7.rt _ ⟨_, _, rfl, ?_, ?_⟩
    · rw [whyP, hst]
      exact hR7
    · rw [whyP, hst]
      exact (hR89.mono EInt.mono hf89).mono EInt.mono hl7
   ·
    skip
    try simp only [decide_eq_true_eq, decide_eq_false_iff_not, Bool.not_eq_true', Bool.not_eq_false', Bool.not_eq_eq_eq_not, Bool.not_true, Bool.not_false] at h67
    have hor : ∀ x ∈ (openF m (unfI atoms.length rs m)), (0 ≤ x ∧ x < m.length) ∧ valI m x = 1 := fun x hx => ⟨⟨(openF_iff.1 hx).2.1, (openF_iff.1 hx).2.2.1⟩, (openF_iff.1 hx).2.2.2⟩
    obtain ⟨G6, hl6, hS6, hR6⟩ := SS.give' (openF m (unfI atoms.length rs m)) [] EInt.mono hS (by decide) ((Rows.ints (l := (openF m (unfI atoms.length rs m))) (fun x hx => by have := hor x hx; omega)).mono EInt.mono (fun b o hb => by cases hb)) rfl
    clear hS
    have hS := hS6
    clear hS6
    simp only [List.nil_append] at hS
    have hOle := hR6.le
    refine cw_skip ?_
    refine pq_then ?_
    refine cw_seq ?_
    refine cw_region ?_
    refine ol_pure rfl (op_fieldAddr fld_34_0 rfl) ?_
    refine ol_load rfl (op_load1 one_32 rfl (fun w hw => (hw.bcell (i := 0) rfl).trans rfl)) hS ?_
    refine ol_pure rfl (op_move rfl) ?_
    refine ol_pure rfl (op_build (is := [0, 1]) (xs := [.const (.int .i64 (-1)), .tmp 70]) (v := .agg #[.int .i64 (-1), .slice ol (openF m (unfI atoms.length rs m)).length cl]) rfl rfl (fun w => by kernel_rfl)) ?_
    refine ol_step rfl (op_buildSlice (el := 37) (is := [0]) (xs := [.tmp 71]) (sz := 2) (cs := [.int .i64 (-1), .slice ol (openF m (unfI atoms.length rs m)).length cl]) hS rfl rfl (fun w => by kernel_rfl) rfl (by decide)) ?_
    clear hS
    rintro _ w ⟨s72, rfl, hS⟩
    refine ol_step rfl (op_append (j := 4) hS sl_32 el_37 rfl rfl rfl rfl rfl rfl (by decide) (hS.news (j := 0) rfl) (by simp [Value.oneCell']) (by omega) (by unfold maxLen; omega)) ?_
    clear hS
    rintro _ w ⟨stepsn, c_stepsn, rfl, hS⟩; (try simp only [List.nil_append, List.cons_append, List.set] at hS); replace hS := SS.drop [] hS; (try simp only [List.nil_append, List.cons_append] at hS)
    refine ol_pure rfl (op_fieldAddr fld_34_0 rfl) ?_
    refine ol_step0  (op_storeB (j := 0) (k := 0) hS sz_32 rfl rfl rfl rfl (by simp)) ?_
    clear hS
    rintro _ w hS; (try simp only [List.nil_append, List.cons_append, List.set] at hS)
    refine ol_nil ?_
    refine pq_then ?_
    refine cw_seq ?_
    refine cw_region ?_
    refine ol_pure rfl (op_assign rfl) ?_
    refine ol_nil ?_
    refine pq_then ?_
    refine cw_block ?_
    refine cw_loop (fun e w n => ∃ j : Nat, e = [(1, .pointer (some ⟨b1, 0, none⟩)), (2, .pointer (some ⟨res, 0, none⟩)), (3, .pointer (some ⟨b3, 0, none⟩)), (4, .slice oM atoms.length cM), (6, .slice ol (openF m (unfI atoms.length rs m)).length cl), (9, .int .i64 (j : Nat))] ∧ j ≤ (openF m (unfI atoms.length rs m)).length ∧ n = (openF m (unfI atoms.length rs m)).length - j ∧ SS G w0 G6 [.blk b3 34 [.slice stepsn (l ++ [(⟨-1, (openF m (unfI atoms.length rs m))⟩ : Step)]).length c_stepsn, .slice none 0 0], .blk b1 26 [.slice oA atoms.length cA, .slice oR rs.length cR], .row oM atoms.length cM 3 1 ((setAll m ((openF m (unfI atoms.length rs m)).take j) 0).map (Value.int .i64)), .row stepsn (l ++ [(⟨-1, (openF m (unfI atoms.length rs m))⟩ : Step)]).length c_stepsn 37 2 (us ++ [.int .i64 (-1), .slice ol (openF m (unfI atoms.length rs m)).length cl]), .blk res 34 [.slice none 0 0, .slice none 0 0]] w) _ _ (by exact ⟨0, rfl, Nat.zero_le _, rfl, by rw [List.length_append]; exact hS⟩) ((Sub.cons rfl (Sub.cons rfl (Sub.cons rfl (Sub.cons rfl (Sub.cons rfl (Sub.cons rfl Sub.nil))))))) ?_
    clear hS
    rintro e w n ⟨j, rfl, hj, rfl, hS⟩
    refine cw_seq ?_
    refine cw_seq ?_
    refine cw_region ?_
    refine ol_pure rfl (op_move rfl) ?_
    refine ol_pure rfl (op_move rfl) ?_
    refine ol_pure rfl (op_len sl_28 rfl rfl) ?_
    refine ol_pure rfl (op_lss rfl rfl) ?_
    refine ol_nil ?_
    refine pq_then ?_
    refine cw_cond rfl (fun h78 => ?_) (fun h78 => ?_)
    ·
     skip
     try simp only [decide_eq_true_eq, decide_eq_false_iff_not, Bool.not_eq_true', Bool.not_eq_false', Bool.not_eq_eq_eq_not, Bool.not_true, Bool.not_false] at h78
     have hlt : j < (openF m (unfI atoms.length rs m)).length := by omega
     obtain ⟨hoO, hcO, hbO⟩ := hR6.int hlt
     have hjr := hor _ (List.getElem_mem hlt)
     obtain ⟨x, hx⟩ := Int.eq_ofNat_of_zero_le hjr.1.1
     have hxm : x < m.length := by omega
     have hcm2 : ((setAll m ((openF m (unfI atoms.length rs m)).take j) 0).map (Value.int .i64))[x * 1]? = some (.int .i64 ((setAll m ((openF m (unfI atoms.length rs m)).take j) 0).getD x 0)) := by
       have : x < (setAll m ((openF m (unfI atoms.length rs m)).take j) 0).length := by rw [setAll_len]; exact hxm
       rw [Nat.mul_one, List.getElem?_map, List.getElem?_eq_getElem this, List.getD_eq_getElem?_getD, List.getElem?_eq_getElem this]
       rfl
     have hoM := (hS.news (j := 2) rfl _ _ hcm2).1
     refine cw_skip ?_
     refine pq_then ?_
     refine cw_seq ?_
     refine cw_block ?_
     refine cw_region ?_
     refine ol_pure rfl (op_move rfl) ?_
     refine ol_pure rfl (op_move rfl) ?_
     refine ol_pure rfl (op_move rfl) ?_
     refine ol_pure rfl (op_indexN sl_28 rfl rfl (by omega) (by assumption)) ?_
     refine ol_load rfl (op_load1 one_3 rfl (fun w hw => by first | exact hw.gcell (by assumption) | exact hw.gcell0 (by assumption))) hS ?_
     refine ol_pure rfl (op_val (op_indexAddr sl_28 rfl rfl (by omega) (by omega) hoM) (v' := .pointer (some (elA oM (x * 1)))) (by rw [hx]; rfl)) ?_
     refine ol_step0  (op_storeR (j := 2) (k := x * 1) hS sz_3 rfl rfl rfl rfl (by simp [setAll_len]; omega)) ?_
     clear hS
     rintro _ w hS; (try simp only [List.nil_append, List.cons_append, List.set] at hS)
     refine ol_nil ?_
     refine pq_in_normal ?_
     refine pq_then ?_
     refine cw_region ?_
     refine ol_pure rfl (op_move rfl) ?_
     refine ol_pure rfl (op_add rfl rfl (by omega) (by omega)) ?_
     refine ol_pure rfl (op_assign rfl) ?_
     refine ol_nil ?_
     refine pq_loop _ _ (by exact ⟨j + 1, rfl, by omega, rfl, by rw [setAll_snoc _ _ _ hlt, List.map_set, hx]; rw [Nat.mul_one] at hS; simpa using hS⟩) ((Sub.cons rfl (Sub.cons rfl (Sub.cons rfl (Sub.cons rfl (Sub.cons rfl (Sub.cons rfl Sub.nil))))))) (by omega)
    ·
     skip
     try simp only [decide_eq_true_eq, decide_eq_false_iff_not, Bool.not_eq_true', Bool.not_eq_false', Bool.not_eq_eq_eq_not, Bool.not_true, Bool.not_false] at h78
     refine cw_exit ?_
     refine pq_exit ?_
     refine pq_exit ?_
     refine pq_in_exit ?_
     refine pq_in_normal ?_
     refine pq_loop _ _ (by exact (by
         have hpo : 0 < (openF m (unfI atoms.length rs m)).length := by omega
         have hst := unf_step hP hm hbu.sound.v hbu.proven hpo
         have htl := told_lt (n := atoms.length) hm (stepOk_set hst)
         have he : tellI m ⟨-1, openF m (unfI atoms.length rs m)⟩ = setAll m (openF m (unfI atoms.length rs m)) 0 := rfl
         rw [List.take_of_length_le (show (openF m (unfI atoms.length rs m)).length ≤ j by omega)] at hS
         refine ⟨f, l ++ [⟨-1, openF m (unfI atoms.length rs m)⟩], setAll m (openF m (unfI atoms.length rs m)) 0, _, G6, stepsn, c_stepsn, rfl, rfl, ?_, ?_, ?_, ((hlk.trans hl43).trans hl6), stepRow (hus.mono EStep.mono (hl43.trans hl6)) hR6 (by omega), by simp; omega, hS⟩
         · rw [hgo, goS_unf hfi hpo]
         · rw [← he]; exact hbu.add hP hst
         · rw [← he]; omega)) ((Sub.cons rfl (Sub.cons rfl (Sub.cons rfl (Sub.cons rfl Sub.nil))))) (by omega)
end Go.Proofs.Ytmkgechdfimfnaa.K
