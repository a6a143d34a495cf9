/-
  The document for layer 21: numbers in rows, what is told, which step has an atom.
  No condition but the premises that each theorem names.
-/
import Derived.Test.YtmkgechdfimfnaaJslices2
import Derived.Test.YtmkgechdfimfnaaRef17
namespace Go.Proofs.Ytmkgechdfimfnaa.K
open Go Go.RowKit
set_option linter.unusedVariables false
set_option linter.unusedSimpArgs false

open Pl
theorem val_at' {m : List Int} {j : Nat} (h : j < m.length) : valI m (j : Int) = m[j] := by simp [valI, h]
theorem byI_at {l : List Step} {k : Nat} {a : Int} (hk : k < l.length) (h : a ∈ l[k].atoms) (hn : ∀ (i : Nat) (hi : i < l.length), i < k → decide (a ∈ l[i].atoms) = false) : byI l a = k := findP_at hk (by simpa using h) hn
theorem byI_none {l : List Step} {k : Nat} {a : Int} (hk : l.length ≤ k) (hn : ∀ (i : Nat) (hi : i < l.length), i < k → decide (a ∈ l[i].atoms) = false) : byI l a = -1 := findP_none hk hn
theorem Rows.stepsEq (l : List Step) : ∀ (a b : List Step) (i : Nat), True := fun _ _ _ => trivial
theorem ints_ne {a b : List Int} {k : Nat} (ha : k < a.length) (hb : k < b.length) (h : ¬ a[k] = b[k]) : ¬ a = b := fun hh => by subst hh; exact h rfl
theorem known_len (n : Nat) (l : List Step) : (knownI n l).length = n := by simp [knownI]
theorem known_at {n : Nat} {l : List Step} {k : Nat} (hk : k < n) : (knownI n l)[k]? = some (if 0 ≤ byI l (k : Int) then (match l[(byI l (k : Int)).toNat]? with | some s => tellOf s | none => 1) else 1) := by
  have h1 : (knownI n l)[k]? = some (match l.find? (fun s => decide ((k : Int) ∈ s.atoms)) with | some s => tellOf s | none => 1) := by simp [knownI, hk]; rfl
  rw [h1]
  congr 1
  rcases findP_lt (fun s : Step => decide ((k : Int) ∈ s.atoms)) l with h | ⟨i, hi, h, hp, hn⟩
  · rw [if_neg (by unfold byI; omega)]
    have h2 := findP_any (fun s : Step => decide ((k : Int) ∈ s.atoms)) l
    rw [decide_eq_false (by omega)] at h2
    have h3 := List.any_eq_false.1 h2.symm
    rw [List.find?_eq_none.2 (fun s hs => h3 s hs)]
  · rw [if_pos (by unfold byI; omega)]
    have h4 : (byI l (k : Int)).toNat = i := by unfold byI; omega
    rw [h4, List.getElem?_eq_getElem hi]
    have h5 : l.find? (fun s => decide ((k : Int) ∈ s.atoms)) = some l[i] := by
      rw [List.find?_eq_some_iff_getElem]
      exact ⟨hp, i, hi, rfl, fun j hj => by have := hn j (by omega) hj; simpa using this⟩
    rw [h5]
theorem known_range {n : Nat} {l : List Step} : ∀ x ∈ knownI n l, 0 ≤ x ∧ x ≤ 2 := fun x hx => by
  obtain ⟨a, _, rfl⟩ := List.mem_map.1 hx
  split
  · unfold tellOf; split <;> omega
  · omega
theorem knownI_snoc (k : Nat) (l : List Step) : knownI (k + 1) l = knownI k l ++ [if 0 ≤ byI l (k : Int) then (match l[(byI l (k : Int)).toNat]? with | some s => tellOf s | none => 1) else 1] := by
  have h1 : (knownI (k + 1) l)[k]? = _ := known_at (Nat.lt_succ_self k)
  have h2 : knownI (k + 1) l = knownI k l ++ [(knownI (k + 1) l)[k]'(by rw [known_len]; omega)] := by
    have h3 : (knownI (k + 1) l).take k = knownI k l := by simp [knownI, ← List.map_take, List.take_range]
    rw [← h3, ← List.take_succ_eq_append_getElem, List.take_of_length_le (by rw [known_len]; omega)]
  rw [h2]
  congr 2
  rw [List.getElem?_eq_getElem (by rw [known_len]; omega)] at h1
  exact Option.some.inj h1

set_option maxRecDepth 100000 in

theorem R21_All_c (G : GH) (w0 : World) (hG : Holds G w0) (vm : Value) (m : List Int) (h3 : RSl 1 EInt G vm m) (v : Value) (l : List Int) (tr : Int) (h4 : RSl 1 EInt G v l) (hl : ∀ x ∈ l, 0 ≤ x ∧ x < m.length) :
   Calls Try.prog 27 #[vm, v, .int .i64 tr] w0 (Sc w0 (.bool (areB m l tr))) := by
 obtain ⟨oM, cM, rfl, hlM, hmM⟩ := h3.elim
 obtain ⟨oL, cL, rfl, hlL, hmL⟩ := h4.elim
 have hLle := h4.le
 refine enter Try.func27 rfl (N := 23) rfl (Nat.le_of_ble_eq_true rfl) ?_
 have hS := SS.init hG
 refine cw_seq ?_
 refine cw_region ?_
 refine ol_pure rfl (op_assign rfl) ?_
 refine ol_nil ?_
 refine pq_then ?_
 refine cw_seq ?_
 refine cw_seq ?_
 refine cw_region ?_
 refine ol_pure rfl (op_assign rfl) ?_
 refine ol_nil ?_
 refine pq_then ?_
 refine cw_block ?_
 refine cw_loop (fun e w n => ∃ k : Nat, e = [(0, .slice oM m.length cM), (1, .slice oL l.length cL), (2, .int .i64 tr), (7, .int .i64 (k : Nat))] ∧ k ≤ l.length ∧ n = l.length - k ∧ (l.take k).all (fun a => decide (valI m a = tr)) = true ∧ SS G w0 G [] w) _ _ (by exact ⟨0, rfl, Nat.zero_le _, rfl, rfl, hS⟩) ((Sub.cons rfl (Sub.cons rfl (Sub.cons rfl (Sub.cons rfl Sub.nil))))) ?_
 clear hS
 rintro e w n ⟨k, rfl, hk, rfl, hp, hS⟩
 refine cw_seq ?_
 refine cw_seq ?_
 refine cw_region ?_
 refine ol_pure rfl (op_move rfl) ?_
 refine ol_pure rfl (op_move rfl) ?_
 refine ol_pure rfl (op_len sl_28 rfl rfl) ?_
 refine ol_pure rfl (op_lss rfl rfl) ?_
 refine ol_nil ?_
 refine pq_then ?_
 refine cw_cond rfl (fun h11 => ?_) (fun h11 => ?_)
 ·
  skip
  try simp only [decide_eq_true_eq, decide_eq_false_iff_not, Bool.not_eq_true', Bool.not_eq_false', Bool.not_eq_eq_eq_not, Bool.not_true, Bool.not_false] at h11
  have hlk : k < l.length := by omega
  obtain ⟨hok, hck, hbk⟩ := h4.int hlk
  have hrk := hl _ (List.getElem_mem hlk)
  obtain ⟨xk, hxk⟩ := Int.eq_ofNat_of_zero_le hrk.1
  have hnk : xk < m.length := by omega
  rw [hxk] at hck
  obtain ⟨hoM, hcMk, _⟩ := h3.int hnk
  have hvk : valI m l[k] = m[xk] := by rw [hxk]; exact val_at' hnk
  refine cw_skip ?_
  refine pq_then ?_
  refine cw_seq ?_
  refine cw_block ?_
  refine cw_seq ?_
  refine cw_region ?_
  refine ol_pure rfl (op_move rfl) ?_
  refine ol_pure rfl (op_move rfl) ?_
  refine ol_pure rfl (op_move rfl) ?_
  refine ol_pure rfl (op_indexN sl_28 rfl rfl (by omega) (by assumption)) ?_
  refine ol_load rfl (op_load1 one_3 rfl (fun w hw => hw.gcell hck)) hS ?_
  refine ol_pure rfl (op_indexN sl_28 rfl rfl (by omega) hoM) ?_
  refine ol_load rfl (op_load1 one_3 rfl (fun w hw => hw.gcell hcMk)) hS ?_
  refine ol_pure rfl (op_move rfl) ?_
  refine ol_pure rfl (op_neq rfl rfl) ?_
  refine ol_nil ?_
  refine pq_then ?_
  refine cw_cond rfl (fun h22 => ?_) (fun h22 => ?_)
  ·
   skip
   try simp only [decide_eq_true_eq, decide_eq_false_iff_not, Bool.not_eq_true', Bool.not_eq_false', Bool.not_eq_eq_eq_not, Bool.not_true, Bool.not_false] at h22
   refine cw_seq ?_
   refine cw_region ?_
   refine ol_pure rfl (op_assign rfl) ?_
   refine ol_nil ?_
   refine pq_then ?_
   refine cw_ret ?_
   refine pq_in_ret ?_
   refine pq_ret ?_
   refine pq_ret ?_
   refine pq_in_ret ?_
   refine pq_ret ?_
   refine ret1 rfl rfl ?_
   exact hS.sc_b (by unfold areB; rw [Pl.all_false_at (fun a => decide (valI m a = tr)) l k hlk (by rw [hvk]; simp_all)])
  ·
   skip
   try simp only [decide_eq_true_eq, decide_eq_false_iff_not, Bool.not_eq_true', Bool.not_eq_false', Bool.not_eq_eq_eq_not, Bool.not_true, Bool.not_false] at h22
   refine cw_skip ?_
   refine pq_in_normal ?_
   refine pq_then ?_
   refine cw_region ?_
   refine ol_pure rfl (op_move rfl) ?_
   refine ol_pure rfl (op_add rfl rfl (by omega) (by omega)) ?_
   refine ol_pure rfl (op_assign rfl) ?_
   refine ol_nil ?_
   refine pq_loop _ _ (by exact ⟨k + 1, rfl, by omega, rfl, by rw [Pl.all_take_succ (fun a => decide (valI m a = tr)) _ _ hlk, hp, hvk]; simp_all, hS⟩) ((Sub.cons rfl (Sub.cons rfl (Sub.cons rfl (Sub.cons rfl Sub.nil))))) (by omega)
 ·
  skip
  try simp only [decide_eq_true_eq, decide_eq_false_iff_not, Bool.not_eq_true', Bool.not_eq_false', Bool.not_eq_eq_eq_not, Bool.not_true, Bool.not_false] at h11
  refine cw_exit ?_
  refine pq_exit ?_
  refine pq_exit ?_
  refine pq_in_exit ?_
  refine pq_then ?_
  refine cw_seq ?_
  refine cw_region ?_
  refine ol_pure rfl (op_assign rfl) ?_
  refine ol_nil ?_
  refine pq_then ?_
  refine cw_ret ?_
  refine ret1 rfl rfl ?_
  exact hS.sc_b (by unfold areB; rw [Pl.all_of_take (fun a => decide (valI m a = tr)) l _ (by omega) hp])
set_option maxRecDepth 100000 in

theorem R21_Any_c (G : GH) (w0 : World) (hG : Holds G w0) (vm : Value) (m : List Int) (h3 : RSl 1 EInt G vm m) (v : Value) (l : List Int) (tr : Int) (h4 : RSl 1 EInt G v l) (hl : ∀ x ∈ l, 0 ≤ x ∧ x < m.length) :
   Calls Try.prog 57 #[vm, v, .int .i64 tr] w0 (Sc w0 (.bool (hasB m l tr))) := by
 obtain ⟨oM, cM, rfl, hlM, hmM⟩ := h3.elim
 obtain ⟨oL, cL, rfl, hlL, hmL⟩ := h4.elim
 have hLle := h4.le
 refine enter Try.func57 rfl (N := 23) rfl (Nat.le_of_ble_eq_true rfl) ?_
 have hS := SS.init hG
 refine cw_seq ?_
 refine cw_region ?_
 refine ol_pure rfl (op_assign rfl) ?_
 refine ol_nil ?_
 refine pq_then ?_
 refine cw_seq ?_
 refine cw_seq ?_
 refine cw_region ?_
 refine ol_pure rfl (op_assign rfl) ?_
 refine ol_nil ?_
 refine pq_then ?_
 refine cw_block ?_
 refine cw_loop (fun e w n => ∃ k : Nat, e = [(0, .slice oM m.length cM), (1, .slice oL l.length cL), (2, .int .i64 tr), (7, .int .i64 (k : Nat))] ∧ k ≤ l.length ∧ n = l.length - k ∧ (l.take k).any (fun a => decide (valI m a = tr)) = false ∧ SS G w0 G [] w) _ _ (by exact ⟨0, rfl, Nat.zero_le _, rfl, rfl, hS⟩) ((Sub.cons rfl (Sub.cons rfl (Sub.cons rfl (Sub.cons rfl Sub.nil))))) ?_
 clear hS
 rintro e w n ⟨k, rfl, hk, rfl, hp, hS⟩
 refine cw_seq ?_
 refine cw_seq ?_
 refine cw_region ?_
 refine ol_pure rfl (op_move rfl) ?_
 refine ol_pure rfl (op_move rfl) ?_
 refine ol_pure rfl (op_len sl_28 rfl rfl) ?_
 refine ol_pure rfl (op_lss rfl rfl) ?_
 refine ol_nil ?_
 refine pq_then ?_
 refine cw_cond rfl (fun h11 => ?_) (fun h11 => ?_)
 ·
  skip
  try simp only [decide_eq_true_eq, decide_eq_false_iff_not, Bool.not_eq_true', Bool.not_eq_false', Bool.not_eq_eq_eq_not, Bool.not_true, Bool.not_false] at h11
  have hlk : k < l.length := by omega
  obtain ⟨hok, hck, hbk⟩ := h4.int hlk
  have hrk := hl _ (List.getElem_mem hlk)
  obtain ⟨xk, hxk⟩ := Int.eq_ofNat_of_zero_le hrk.1
  have hnk : xk < m.length := by omega
  rw [hxk] at hck
  obtain ⟨hoM, hcMk, _⟩ := h3.int hnk
  have hvk : valI m l[k] = m[xk] := by rw [hxk]; exact val_at' hnk
  refine cw_skip ?_
  refine pq_then ?_
  refine cw_seq ?_
  refine cw_block ?_
  refine cw_seq ?_
  refine cw_region ?_
  refine ol_pure rfl (op_move rfl) ?_
  refine ol_pure rfl (op_move rfl) ?_
  refine ol_pure rfl (op_move rfl) ?_
  refine ol_pure rfl (op_indexN sl_28 rfl rfl (by omega) (by assumption)) ?_
  refine ol_load rfl (op_load1 one_3 rfl (fun w hw => hw.gcell hck)) hS ?_
  refine ol_pure rfl (op_indexN sl_28 rfl rfl (by omega) hoM) ?_
  refine ol_load rfl (op_load1 one_3 rfl (fun w hw => hw.gcell hcMk)) hS ?_
  refine ol_pure rfl (op_move rfl) ?_
  refine ol_pure rfl (op_eql rfl rfl) ?_
  refine ol_nil ?_
  refine pq_then ?_
  refine cw_cond rfl (fun h22 => ?_) (fun h22 => ?_)
  ·
   skip
   try simp only [decide_eq_true_eq, decide_eq_false_iff_not, Bool.not_eq_true', Bool.not_eq_false', Bool.not_eq_eq_eq_not, Bool.not_true, Bool.not_false] at h22
   refine cw_seq ?_
   refine cw_region ?_
   refine ol_pure rfl (op_assign rfl) ?_
   refine ol_nil ?_
   refine pq_then ?_
   refine cw_ret ?_
   refine pq_in_ret ?_
   refine pq_ret ?_
   refine pq_ret ?_
   refine pq_in_ret ?_
   refine pq_ret ?_
   refine ret1 rfl rfl ?_
   exact hS.sc_b (by unfold hasB; rw [Pl.any_true_at (fun a => decide (valI m a = tr)) l k hlk (by rw [hvk]; simp_all)])
  ·
   skip
   try simp only [decide_eq_true_eq, decide_eq_false_iff_not, Bool.not_eq_true', Bool.not_eq_false', Bool.not_eq_eq_eq_not, Bool.not_true, Bool.not_false] at h22
   refine cw_skip ?_
   refine pq_in_normal ?_
   refine pq_then ?_
   refine cw_region ?_
   refine ol_pure rfl (op_move rfl) ?_
   refine ol_pure rfl (op_add rfl rfl (by omega) (by omega)) ?_
   refine ol_pure rfl (op_assign rfl) ?_
   refine ol_nil ?_
   refine pq_loop _ _ (by exact ⟨k + 1, rfl, by omega, rfl, by rw [Pl.any_take_succ (fun a => decide (valI m a = tr)) _ _ hlk, hp, hvk]; simp_all, hS⟩) ((Sub.cons rfl (Sub.cons rfl (Sub.cons rfl (Sub.cons rfl Sub.nil))))) (by omega)
 ·
  skip
  try simp only [decide_eq_true_eq, decide_eq_false_iff_not, Bool.not_eq_true', Bool.not_eq_false', Bool.not_eq_eq_eq_not, Bool.not_true, Bool.not_false] at h11
  refine cw_exit ?_
  refine pq_exit ?_
  refine pq_exit ?_
  refine pq_in_exit ?_
  refine pq_then ?_
  refine cw_seq ?_
  refine cw_region ?_
  refine ol_pure rfl (op_assign rfl) ?_
  refine ol_nil ?_
  refine pq_then ?_
  refine cw_ret ?_
  refine ret1 rfl rfl ?_
  exact hS.sc_b (by unfold hasB; rw [Pl.any_of_take (fun a => decide (valI m a = tr)) l _ (by omega) hp])
set_option maxRecDepth 100000 in

theorem R21_Open_c (G : GH) (w0 : World) (hG : Holds G w0) {α : Type} {E : ER α} (va vr : Value) (atoms : List α) (h1 : RSl 1 E G va atoms) (hvr : ∃ oR nR cR, vr = .slice oR nR cR) (hn : atoms.length ≤ 1000) :
   Calls Try.prog 23 #[.agg #[va, vr]] w0 (Rt noG w0 (fun G v => RSl 1 EInt G v (startI atoms.length))) := by
 obtain ⟨oA, cA, rfl, hlA, hmA⟩ := h1.elim
 obtain ⟨oR, nR, cR, rfl⟩ := hvr
 refine enter Try.func23 rfl (N := 17) rfl (Nat.le_of_ble_eq_true rfl) ?_
 have hS := SS.init hG
 refine cw_seq ?_
 refine cw_region ?_
 refine ol_step rfl (op_box hS rfl rfl) ?_
 clear hS
 rintro _ w ⟨b1, rfl, hS⟩
 refine ol_pure rfl (op_assign rfl) ?_
 refine ol_nil ?_
 refine pq_then ?_
 refine cw_seq ?_
 refine cw_region ?_
 refine ol_step rfl (op_buildSlice (el := 3) (is := []) (xs := []) (sz := 1) (cs := []) hS rfl rfl (fun w => by kernel_rfl) rfl (by decide)) ?_
 clear hS
 rintro _ w ⟨o3, rfl, hS⟩
 refine ol_pure rfl (op_assign rfl) ?_
 refine ol_nil ?_
 refine pq_then ?_
 refine cw_seq ?_
 refine cw_seq ?_
 refine cw_region ?_
 refine ol_pure rfl (op_assign rfl) ?_
 refine ol_nil ?_
 refine pq_then ?_
 refine cw_block ?_
 refine cw_loop (fun e w n => ∃ k o3 c3, e = [(1, .pointer (some ⟨b1, 0, none⟩)), (3, .slice o3 k c3), (4, .int .i64 (k : Nat))] ∧ k ≤ atoms.length ∧ n = atoms.length - k ∧ SS G w0 G [.row o3 k c3 3 1 ((List.replicate k (1 : Int)).map (Value.int .i64)), .blk b1 26 [.slice oA atoms.length cA, .slice oR nR cR]] w) _ _ (by exact ⟨0, o3, _, rfl, Nat.zero_le _, rfl, hS⟩) ((Sub.cons rfl (Sub.cons rfl (Sub.cons rfl Sub.nil)))) ?_
 clear hS
 rintro e w n ⟨k, o3, c3, rfl, hk, rfl, hS⟩
 refine cw_seq ?_
 refine cw_seq ?_
 refine cw_region ?_
 refine ol_pure rfl (op_move rfl) ?_
 refine ol_pure rfl (op_fieldAddr fld_26_0 rfl) ?_
 refine ol_load rfl (op_load1 one_24 rfl (fun w hw => (hw.bcell (i := 1) rfl).trans rfl)) hS ?_
 refine ol_pure rfl (op_len sl_24 rfl rfl) ?_
 refine ol_pure rfl (op_lss rfl rfl) ?_
 refine ol_nil ?_
 refine pq_then ?_
 refine cw_cond rfl (fun h10 => ?_) (fun h10 => ?_)
 ·
  skip
  try simp only [decide_eq_true_eq, decide_eq_false_iff_not, Bool.not_eq_true', Bool.not_eq_false', Bool.not_eq_eq_eq_not, Bool.not_true, Bool.not_false] at h10
  have hlt : k < atoms.length := by omega
  refine cw_skip ?_
  refine pq_then ?_
  refine cw_seq ?_
  refine cw_block ?_
  refine cw_region ?_
  refine ol_pure rfl (op_move rfl) ?_
  refine ol_step rfl (op_buildSlice (el := 3) (is := [0]) (xs := [.const (.int .i64 (1))]) (sz := 1) (cs := [.int .i64 (1)]) hS rfl rfl (fun w => by kernel_rfl) rfl (by decide)) ?_
  clear hS
  rintro _ w ⟨s14, rfl, hS⟩
  refine ol_step rfl (op_append (j := 1) hS sl_28 el_3 rfl rfl rfl rfl rfl rfl (by decide) (hS.news (j := 0) rfl) (by simp [Value.oneCell']) (by omega) (by unfold maxLen; omega)) ?_
  clear hS
  rintro _ w ⟨o3n, c_o3n, rfl, hS⟩; (try simp only [List.nil_append, List.cons_append, List.set] at hS); replace hS := SS.drop [] hS; (try simp only [List.nil_append, List.cons_append] at hS)
  refine ol_pure rfl (op_assign rfl) ?_
  refine ol_nil ?_
  refine pq_in_normal ?_
  refine pq_then ?_
  refine cw_region ?_
  refine ol_pure rfl (op_move rfl) ?_
  refine ol_pure rfl (op_add rfl rfl (by omega) (by omega)) ?_
  refine ol_pure rfl (op_assign rfl) ?_
  refine ol_nil ?_
  refine pq_loop _ _ (by exact ⟨k + 1, o3n, c_o3n, rfl, by omega, rfl, by rw [List.replicate_succ']; simpa using hS⟩) ((Sub.cons rfl (Sub.cons rfl (Sub.cons rfl Sub.nil)))) (by omega)
 ·
  skip
  try simp only [decide_eq_true_eq, decide_eq_false_iff_not, Bool.not_eq_true', Bool.not_eq_false', Bool.not_eq_eq_eq_not, Bool.not_true, Bool.not_false] at h10
  refine cw_exit ?_
  refine pq_exit ?_
  refine pq_exit ?_
  refine pq_in_exit ?_
  refine pq_then ?_
  refine cw_seq ?_
  refine cw_region ?_
  refine ol_pure rfl (op_move rfl) ?_
  refine ol_pure rfl (op_assign rfl) ?_
  refine ol_nil ?_
  refine pq_then ?_
  refine cw_ret ?_
  refine ret1 rfl rfl ?_
  have hk0 : k = atoms.length := by omega
  subst hk0
  exact hS.rt_row [] (by decide) (Rows.ints fun x hx => by have := startI_mem x hx; omega) EInt.mono (by simp [startI])
set_option maxRecDepth 100000 in

theorem R21_By_c (G : GH) (w0 : World) (hG : Holds G w0) (vs vh : Value) (l : List Step) (h5 : RSl 2 EStep G vs l) (hvh : ∃ o n c, vh = .slice o n c) (a : Int) :
   Calls Try.prog 29 #[.agg #[vs, vh], .int .i64 a] w0 (Sc w0 (.int .i64 (byI l a))) := by
 obtain ⟨oP, cP, rfl, hlP, hmP⟩ := h5.elim
 have hPle := h5.le
 obtain ⟨oh, nh, ch, rfl⟩ := hvh
 refine enter Try.func29 rfl (N := 22) rfl (Nat.le_of_ble_eq_true rfl) ?_
 have hS := SS.init hG
 refine cw_seq ?_
 refine cw_region ?_
 refine ol_step rfl (op_box hS rfl rfl) ?_
 clear hS
 rintro _ w ⟨b2, rfl, hS⟩
 refine ol_pure rfl (op_assign rfl) ?_
 refine ol_nil ?_
 refine pq_then ?_
 refine cw_seq ?_
 refine cw_seq ?_
 refine cw_region ?_
 refine ol_pure rfl (op_assign rfl) ?_
 refine ol_nil ?_
 refine pq_then ?_
 refine cw_block ?_
 refine cw_loop (fun e w n => ∃ k : Nat, e = [(1, .int .i64 a), (2, .pointer (some ⟨b2, 0, none⟩)), (5, .int .i64 (k : Nat))] ∧ k ≤ l.length ∧ n = l.length - k ∧ (∀ (i : Nat) (hi : i < l.length), i < k → decide (a ∈ l[i].atoms) = false) ∧ SS G w0 G [.blk b2 34 [.slice oP l.length cP, .slice oh nh ch]] w) _ _ (by exact ⟨0, rfl, Nat.zero_le _, rfl, (fun i _ h => absurd h (Nat.not_lt_zero _)), hS⟩) ((Sub.cons rfl (Sub.cons rfl (Sub.cons rfl Sub.nil)))) ?_
 clear hS
 rintro e w n ⟨k, rfl, hk, rfl, hno, hS⟩
 refine cw_seq ?_
 refine cw_seq ?_
 refine cw_region ?_
 refine ol_pure rfl (op_move rfl) ?_
 refine ol_pure rfl (op_fieldAddr fld_34_0 rfl) ?_
 refine ol_load rfl (op_load1 one_32 rfl (fun w hw => (hw.bcell (i := 0) rfl).trans rfl)) hS ?_
 refine ol_pure rfl (op_len sl_32 rfl rfl) ?_
 refine ol_pure rfl (op_lss rfl rfl) ?_
 refine ol_nil ?_
 refine pq_then ?_
 refine cw_cond rfl (fun h10 => ?_) (fun h10 => ?_)
 ·
  skip
  try simp only [decide_eq_true_eq, decide_eq_false_iff_not, Bool.not_eq_true', Bool.not_eq_false', Bool.not_eq_eq_eq_not, Bool.not_true, Bool.not_false] at h10
  have hlt : k < l.length := by omega
  obtain ⟨hoP, _, _, ⟨vk, rfl, hvk, hrk⟩, hcells⟩ := h5.el hlt
  obtain ⟨ov, cv, rfl, _, _⟩ := hvk.elim
  refine cw_skip ?_
  refine pq_then ?_
  refine cw_seq ?_
  refine cw_block ?_
  refine cw_seq ?_
  refine cw_region ?_
  refine ol_pure rfl (op_fieldAddr fld_34_0 rfl) ?_
  refine ol_load rfl (op_load1 one_32 rfl (fun w hw => (hw.bcell (i := 0) rfl).trans rfl)) hS ?_
  refine ol_pure rfl (op_move rfl) ?_
  refine ol_pure rfl (op_indexN sl_32 rfl rfl (by omega) hoP) ?_
  refine ol_pure rfl (op_fieldAddr fld_37_1 rfl) ?_
  refine ol_load rfl (op_load1 one_28 rfl (fun w hw => hw.gcell (hcells 1 _ rfl))) hS ?_
  refine ol_pure rfl (op_move rfl) ?_
  refine ol_step rfl (op_call_sc hS cf_28 rfl (R21_In_c G _ hS.hold _ l[k].atoms a hvk)) ?_
  clear hS
  rintro _ w ⟨rfl, hS⟩
  refine ol_nil ?_
  refine pq_then ?_
  refine cw_cond rfl (fun h20 => ?_) (fun h20 => ?_)
  ·
   skip
   try simp only [decide_eq_true_eq, decide_eq_false_iff_not, Bool.not_eq_true', Bool.not_eq_false', Bool.not_eq_eq_eq_not, Bool.not_true, Bool.not_false] at h20
   refine cw_seq ?_
   refine cw_region ?_
   refine ol_pure rfl (op_move rfl) ?_
   refine ol_pure rfl (op_assign rfl) ?_
   refine ol_nil ?_
   refine pq_then ?_
   refine cw_ret ?_
   refine pq_in_ret ?_
   refine pq_ret ?_
   refine pq_ret ?_
   refine pq_in_ret ?_
   refine pq_ret ?_
   refine ret1 rfl rfl ?_
   exact hS.sc_i (byI_at hlt (by simpa using h20) hno).symm
  ·
   skip
   try simp only [decide_eq_true_eq, decide_eq_false_iff_not, Bool.not_eq_true', Bool.not_eq_false', Bool.not_eq_eq_eq_not, Bool.not_true, Bool.not_false] at h20
   refine cw_skip ?_
   refine pq_in_normal ?_
   refine pq_then ?_
   refine cw_region ?_
   refine ol_pure rfl (op_move rfl) ?_
   refine ol_pure rfl (op_add rfl rfl (by omega) (by omega)) ?_
   refine ol_pure rfl (op_assign rfl) ?_
   refine ol_nil ?_
   refine pq_loop _ _ (by exact ⟨k + 1, rfl, by omega, rfl, (fun i hi hik => by rcases Nat.lt_succ_iff_lt_or_eq.1 hik with hh | rfl; exact hno i hi hh; simpa using h20), hS⟩) ((Sub.cons rfl (Sub.cons rfl (Sub.cons rfl Sub.nil)))) (by omega)
 ·
  skip
  try simp only [decide_eq_true_eq, decide_eq_false_iff_not, Bool.not_eq_true', Bool.not_eq_false', Bool.not_eq_eq_eq_not, Bool.not_true, Bool.not_false] at h10
  refine cw_exit ?_
  refine pq_exit ?_
  refine pq_exit ?_
  refine pq_in_exit ?_
  refine pq_then ?_
  refine cw_seq ?_
  refine cw_region ?_
  refine ol_pure rfl (op_assign rfl) ?_
  refine ol_nil ?_
  refine pq_then ?_
  refine cw_ret ?_
  refine ret1 rfl rfl ?_
  exact hS.sc_i (byI_none (by omega) hno).symm
set_option maxRecDepth 100000 in
set_option maxHeartbeats 400000 in

theorem R16_Of_c (G : GH) (w0 : World) (hG : Holds G w0) {α : Type} {E : ER α} (hE : EMono E) (va vr : Value) (atoms : List α) (rs : List Rule) (h1 : RSl 1 E G va atoms) (h2 : RSl 3 ERule G vr rs) (hP : PrOk atoms.length rs) (a : Int) :
   Calls Try.prog 56 #[.agg #[va, vr], .int .i64 a] w0 (Rt noG w0 (fun G v => RSl 1 EInt G v (ofI rs a))) := by
 obtain ⟨oA, cA, rfl, hlA, hmA⟩ := h1.elim
 obtain ⟨oR, cR, rfl, hlR, hmR⟩ := h2.elim
 have hle1 := h1.le
 have hle2 := h2.le
 have hPn := hP.n_le
 have hPm := hP.m_le
 refine enter Try.func56 rfl (N := 28) rfl (Nat.le_of_ble_eq_true rfl) ?_
 have hS := SS.init hG
 refine cw_seq ?_
 refine cw_region ?_
 refine ol_step rfl (op_box hS rfl rfl) ?_
 clear hS
 rintro _ w ⟨b2, rfl, hS⟩
 refine ol_pure rfl (op_assign rfl) ?_
 refine ol_nil ?_
 refine pq_then ?_
 refine cw_seq ?_
 refine cw_region ?_
 refine ol_step rfl (op_buildSlice (el := 3) (is := []) (xs := []) (sz := 1) (cs := []) hS rfl rfl (fun w => by kernel_rfl) rfl (by decide)) ?_
 clear hS
 rintro _ w ⟨o5, rfl, hS⟩
 refine ol_pure rfl (op_assign rfl) ?_
 refine ol_nil ?_
 refine pq_then ?_
 refine cw_seq ?_
 refine cw_seq ?_
 refine cw_region ?_
 refine ol_pure rfl (op_assign rfl) ?_
 refine ol_nil ?_
 refine pq_then ?_
 refine cw_block ?_
 refine cw_loop (fun e w n => ∃ k o5 l5 c5, e = [(1, .int .i64 a), (2, .pointer (some ⟨b2, 0, none⟩)), (5, .slice o5 l5 c5), (6, .int .i64 (k : Nat))] ∧ k ≤ rs.length ∧ n = rs.length - k ∧ l5 = (pickI (fun i => match rs[i]? with | some r => decide (r.head = a) | none => false) k).length ∧ SS G w0 G [.row o5 l5 c5 3 1 ((pickI (fun i => match rs[i]? with | some r => decide (r.head = a) | none => false) k).map (Value.int .i64)), .blk b2 26 [.slice oA atoms.length cA, .slice oR rs.length cR]] w) _ _ (by exact ⟨0, o5, 0, _, rfl, Nat.zero_le _, rfl, rfl, hS⟩) ((Sub.cons rfl (Sub.cons rfl (Sub.cons rfl (Sub.cons rfl Sub.nil))))) ?_
 clear hS
 rintro e w n ⟨k, o5, l5, c5, rfl, hk, rfl, hl5, hS⟩
 refine cw_seq ?_
 refine cw_seq ?_
 refine cw_region ?_
 refine ol_pure rfl (op_move rfl) ?_
 refine ol_pure rfl (op_fieldAddr fld_26_1 rfl) ?_
 refine ol_load rfl (op_load1 one_22 rfl (fun w hw => (hw.bcell (i := 1) rfl).trans rfl)) hS ?_
 refine ol_pure rfl (op_len sl_22 rfl rfl) ?_
 refine ol_pure rfl (op_lss rfl rfl) ?_
 refine ol_nil ?_
 refine pq_then ?_
 refine cw_cond rfl (fun h12 => ?_) (fun h12 => ?_)
 ·
  skip
  try simp only [decide_eq_true_eq, decide_eq_false_iff_not, Bool.not_eq_true', Bool.not_eq_false', Bool.not_eq_eq_eq_not, Bool.not_true, Bool.not_false] at h12
  have hlt : k < rs.length := by omega
  obtain ⟨hoR, _, _, ⟨p, q, rfl, hp, hq, hhd⟩, hcells⟩ := h2.el hlt
  obtain ⟨op, cp, hpe, _, _⟩ := hp.elim
  obtain ⟨oq, cq, hqe, _, _⟩ := hq.elim
  subst hpe
  subst hqe
  have hpl := pickI_len (fun i => match rs[i]? with | some r => decide (r.head = a) | none => false) k
  refine cw_skip ?_
  refine pq_then ?_
  refine cw_seq ?_
  refine cw_block ?_
  refine cw_seq ?_
  refine cw_region ?_
  refine ol_pure rfl (op_fieldAddr fld_26_1 rfl) ?_
  refine ol_load rfl (op_load1 one_22 rfl (fun w hw => (hw.bcell (i := 1) rfl).trans rfl)) hS ?_
  refine ol_pure rfl (op_move rfl) ?_
  refine ol_pure rfl (op_indexN sl_22 rfl rfl (by omega) hoR) ?_
  refine ol_pure rfl (op_fieldAddr fld_30_0 rfl) ?_
  refine ol_load rfl (op_load1 one_3 rfl (fun w hw => hw.gcell (hcells 0 _ rfl))) hS ?_
  refine ol_pure rfl (op_move rfl) ?_
  refine ol_pure rfl (op_eql rfl rfl) ?_
  refine ol_nil ?_
  refine pq_then ?_
  refine cw_cond rfl (fun h22 => ?_) (fun h22 => ?_)
  ·
   skip
   try simp only [decide_eq_true_eq, decide_eq_false_iff_not, Bool.not_eq_true', Bool.not_eq_false', Bool.not_eq_eq_eq_not, Bool.not_true, Bool.not_false] at h22
   refine cw_region ?_
   refine ol_pure rfl (op_move rfl) ?_
   refine ol_pure rfl (op_move rfl) ?_
   refine ol_step rfl (op_buildSlice (el := 3) (is := [0]) (xs := [.tmp 24]) (sz := 1) (cs := [.int .i64 (k : Nat)]) hS rfl rfl (fun w => by kernel_rfl) rfl (by decide)) ?_
   clear hS
   rintro _ w ⟨s25, rfl, hS⟩
   refine ol_step rfl (op_append (j := 1) hS sl_28 el_3 rfl rfl rfl rfl rfl rfl (by decide) (hS.news (j := 0) rfl) (by simp [Value.oneCell']) (by omega) (by unfold maxLen; omega)) ?_
   clear hS
   rintro _ w ⟨o5n, c_o5n, rfl, hS⟩; (try simp only [List.nil_append, List.cons_append, List.set] at hS); replace hS := SS.drop [] hS; (try simp only [List.nil_append, List.cons_append] at hS)
   refine ol_pure rfl (op_assign rfl) ?_
   refine ol_nil ?_
   refine pq_in_normal ?_
   refine pq_then ?_
   refine cw_region ?_
   refine ol_pure rfl (op_move rfl) ?_
   refine ol_pure rfl (op_add rfl rfl (by omega) (by omega)) ?_
   refine ol_pure rfl (op_assign rfl) ?_
   refine ol_nil ?_
   refine pq_loop _ _ (by exact (by
       have he := pickI_t (p := (fun i => match rs[i]? with | some r => decide (r.head = a) | none => false)) (k := k) (by simp [hlt, h22])
       exact ⟨k + 1, o5n, l5 + 1, c_o5n, rfl, by omega, rfl, by rw [he]; simp [hl5], by rw [he]; simpa using hS⟩)) ((Sub.cons rfl (Sub.cons rfl (Sub.cons rfl (Sub.cons rfl Sub.nil))))) (by omega)
  ·
   skip
   try simp only [decide_eq_true_eq, decide_eq_false_iff_not, Bool.not_eq_true', Bool.not_eq_false', Bool.not_eq_eq_eq_not, Bool.not_true, Bool.not_false] at h22
   refine cw_skip ?_
   refine pq_in_normal ?_
   refine pq_then ?_
   refine cw_region ?_
   refine ol_pure rfl (op_move rfl) ?_
   refine ol_pure rfl (op_add rfl rfl (by omega) (by omega)) ?_
   refine ol_pure rfl (op_assign rfl) ?_
   refine ol_nil ?_
   refine pq_loop _ _ (by exact (by
       have he := pickI_f (p := (fun i => match rs[i]? with | some r => decide (r.head = a) | none => false)) (k := k) (by simp [hlt, h22])
       exact ⟨k + 1, o5, l5, c5, rfl, by omega, rfl, by rw [he]; exact hl5, by rw [he]; exact hS⟩)) ((Sub.cons rfl (Sub.cons rfl (Sub.cons rfl (Sub.cons rfl Sub.nil))))) (by omega)
 ·
  skip
  try simp only [decide_eq_true_eq, decide_eq_false_iff_not, Bool.not_eq_true', Bool.not_eq_false', Bool.not_eq_eq_eq_not, Bool.not_true, Bool.not_false] at h12
  refine cw_exit ?_
  refine pq_exit ?_
  refine pq_exit ?_
  refine pq_in_exit ?_
  refine pq_then ?_
  refine cw_seq ?_
  refine cw_region ?_
  refine ol_pure rfl (op_move rfl) ?_
  refine ol_pure rfl (op_assign rfl) ?_
  refine ol_nil ?_
  refine pq_then ?_
  refine cw_ret ?_
  refine ret1 rfl rfl ?_
  rw [show k = rs.length from by omega] at hS hl5
  exact hS.rt_row [] (by decide) (Rows.ints (l := ofI rs a) fun x hx => by have := pickI_range hx; omega) EInt.mono hl5
set_option maxRecDepth 100000 in
set_option maxHeartbeats 400000 in

theorem ground_Of_c (G : GH) (w0 : World) (hG : Holds G w0) {α : Type} {E : ER α} (hE : EMono E) (va vr : Value) (atoms : List α) (rs : List Rule) (h1 : RSl 1 E G va atoms) (h2 : RSl 3 ERule G vr rs) (hP : PrOk atoms.length rs) (a : Int) :
   Calls Try.prog 48 #[.agg #[va, vr], .int .i64 a] w0 (Rt noG w0 (fun G v => RSl 1 EInt G v (ofI rs a))) := by
 obtain ⟨oA, cA, rfl, hlA, hmA⟩ := h1.elim
 obtain ⟨oR, cR, rfl, hlR, hmR⟩ := h2.elim
 have hle1 := h1.le
 have hle2 := h2.le
 have hPn := hP.n_le
 have hPm := hP.m_le
 refine enter Try.func48 rfl (N := 26) rfl (Nat.le_of_ble_eq_true rfl) ?_
 have hS := SS.init hG
 refine cw_seq ?_
 refine cw_region ?_
 refine ol_step rfl (op_box hS rfl rfl) ?_
 clear hS
 rintro _ w ⟨b2, rfl, hS⟩
 refine ol_pure rfl (op_assign rfl) ?_
 refine ol_nil ?_
 refine pq_then ?_
 refine cw_seq ?_
 refine cw_region ?_
 refine ol_pure rfl (op_assign rfl) ?_
 refine ol_nil ?_
 refine pq_then ?_
 refine cw_seq ?_
 refine cw_seq ?_
 refine cw_region ?_
 refine ol_pure rfl (op_fieldAddr fld_26_1 rfl) ?_
 refine ol_load rfl (op_load1 one_22 rfl (fun w hw => (hw.bcell (i := 0) rfl).trans rfl)) hS ?_
 refine ol_pure rfl (op_len sl_22 rfl rfl) ?_
 refine ol_pure rfl (op_move rfl) ?_
 refine ol_nil ?_
 refine pq_then ?_
 refine cw_block ?_
 refine cw_loop (fun e w n => ∃ k o5 l5 c5, e = [(1, .int .i64 a), (5, .slice o5 l5 c5), (9, .slice oR rs.length cR), (10, .int .i64 (rs.length : Nat)), (11, .int .i64 (k : Nat))] ∧ k ≤ rs.length ∧ n = rs.length - k ∧ l5 = (pickI (fun i => match rs[i]? with | some r => decide (r.head = a) | none => false) k).length ∧ SS G w0 G [.row o5 l5 c5 3 1 ((pickI (fun i => match rs[i]? with | some r => decide (r.head = a) | none => false) k).map (Value.int .i64)), .blk b2 26 [.slice oA atoms.length cA, .slice oR rs.length cR]] w) _ _ (by exact ⟨0, none, 0, 0, rfl, Nat.zero_le _, rfl, rfl, hS.nil 3 1⟩) ((Sub.cons rfl (Sub.cons rfl (Sub.cons rfl (Sub.cons rfl (Sub.cons rfl Sub.nil)))))) ?_
 clear hS
 rintro e w n ⟨k, o5, l5, c5, rfl, hk, rfl, hl5, hS⟩
 refine cw_seq ?_
 refine cw_region ?_
 refine ol_pure rfl (op_lss rfl rfl) ?_
 refine ol_nil ?_
 refine pq_then ?_
 refine cw_seq ?_
 refine cw_cond rfl (fun h12 => ?_) (fun h12 => ?_)
 ·
  skip
  try simp only [decide_eq_true_eq, decide_eq_false_iff_not, Bool.not_eq_true', Bool.not_eq_false', Bool.not_eq_eq_eq_not, Bool.not_true, Bool.not_false] at h12
  have hlt : k < rs.length := by omega
  obtain ⟨hoR, _, _, ⟨p, q, rfl, hp, hq, hhd⟩, hcells⟩ := h2.el hlt
  obtain ⟨op, cp, hpe, _, _⟩ := hp.elim
  obtain ⟨oq, cq, hqe, _, _⟩ := hq.elim
  subst hpe
  subst hqe
  have hpl := pickI_len (fun i => match rs[i]? with | some r => decide (r.head = a) | none => false) k
  refine cw_skip ?_
  refine pq_then ?_
  refine cw_seq ?_
  refine cw_block ?_
  refine cw_seq ?_
  refine cw_region ?_
  refine ol_pure rfl (op_move rfl) ?_
  refine ol_pure rfl (op_indexN sl_22 rfl rfl (by omega) hoR) ?_
  refine ol_load rfl (op_loadN agg_30 rfl (by rfl) (fun w hw k u hk => hw.gcell (hcells k u hk))) hS ?_
  refine ol_step rfl (op_alloc hS el_30 rfl) ?_
  clear hS
  rintro _ w ⟨b7, rfl, hS⟩
  refine ol_pure rfl (op_assign rfl) ?_
  refine ol_step0  (op_storeN (j := 0) hS sz_30 rfl rfl rfl rfl rfl (by simp [Value.oneCell'])) ?_
  clear hS
  rintro _ w hS; (try simp only [List.nil_append, List.cons_append, List.set] at hS)
  refine ol_nil ?_
  refine pq_then ?_
  refine cw_seq ?_
  refine cw_region ?_
  refine ol_pure rfl (op_fieldAddr fld_30_0 rfl) ?_
  refine ol_load rfl (op_load1 one_3 rfl (fun w hw => (hw.bcell (i := 0) rfl).trans rfl)) hS ?_
  refine ol_pure rfl (op_move rfl) ?_
  refine ol_pure rfl (op_eql rfl rfl) ?_
  refine ol_nil ?_
  refine pq_then ?_
  refine cw_cond rfl (fun h19 => ?_) (fun h19 => ?_)
  ·
   skip
   try simp only [decide_eq_true_eq, decide_eq_false_iff_not, Bool.not_eq_true', Bool.not_eq_false', Bool.not_eq_eq_eq_not, Bool.not_true, Bool.not_false] at h19
   refine cw_region ?_
   refine ol_pure rfl (op_move rfl) ?_
   refine ol_pure rfl (op_move rfl) ?_
   refine ol_step rfl (op_buildSlice (el := 3) (is := [0]) (xs := [.tmp 21]) (sz := 1) (cs := [.int .i64 (k : Nat)]) hS rfl rfl (fun w => by kernel_rfl) rfl (by decide)) ?_
   clear hS
   rintro _ w ⟨s22, rfl, hS⟩
   refine ol_step rfl (op_append (j := 2) hS sl_28 el_3 rfl rfl rfl rfl rfl rfl (by decide) (hS.news (j := 0) rfl) (by simp [Value.oneCell']) (by omega) (by unfold maxLen; omega)) ?_
   clear hS
   rintro _ w ⟨o5n, c_o5n, rfl, hS⟩; (try simp only [List.nil_append, List.cons_append, List.set] at hS); replace hS := SS.drop [] hS; (try simp only [List.nil_append, List.cons_append] at hS)
   refine ol_pure rfl (op_assign rfl) ?_
   refine ol_nil ?_
   refine pq_in_normal ?_
   refine pq_then ?_
   refine cw_region ?_
   refine ol_pure rfl (op_add rfl rfl (by omega) (by omega)) ?_
   refine ol_pure rfl (op_move rfl) ?_
   refine ol_nil ?_
   refine pq_loop _ _ (by exact (by
       replace hS := SS.drop [] hS
       have he := pickI_t (p := (fun i => match rs[i]? with | some r => decide (r.head = a) | none => false)) (k := k) (by simp [hlt, h19])
       exact ⟨k + 1, o5n, l5 + 1, c_o5n, rfl, by omega, rfl, by rw [he]; simp [hl5], by rw [he]; simpa using hS⟩)) ((Sub.cons rfl (Sub.cons rfl (Sub.cons rfl (Sub.cons rfl (Sub.cons rfl Sub.nil)))))) (by omega)
  ·
   skip
   try simp only [decide_eq_true_eq, decide_eq_false_iff_not, Bool.not_eq_true', Bool.not_eq_false', Bool.not_eq_eq_eq_not, Bool.not_true, Bool.not_false] at h19
   refine cw_skip ?_
   refine pq_in_normal ?_
   refine pq_then ?_
   refine cw_region ?_
   refine ol_pure rfl (op_add rfl rfl (by omega) (by omega)) ?_
   refine ol_pure rfl (op_move rfl) ?_
   refine ol_nil ?_
   refine pq_loop _ _ (by exact (by
       replace hS := SS.drop [] hS
       have he := pickI_f (p := (fun i => match rs[i]? with | some r => decide (r.head = a) | none => false)) (k := k) (by simp [hlt, h19])
       exact ⟨k + 1, o5, l5, c5, rfl, by omega, rfl, by rw [he]; exact hl5, by rw [he]; exact hS⟩)) ((Sub.cons rfl (Sub.cons rfl (Sub.cons rfl (Sub.cons rfl (Sub.cons rfl Sub.nil)))))) (by omega)
 ·
  skip
  try simp only [decide_eq_true_eq, decide_eq_false_iff_not, Bool.not_eq_true', Bool.not_eq_false', Bool.not_eq_eq_eq_not, Bool.not_true, Bool.not_false] at h12
  refine cw_exit ?_
  refine pq_exit ?_
  refine pq_exit ?_
  refine pq_in_exit ?_
  refine pq_then ?_
  refine cw_seq ?_
  refine cw_region ?_
  refine ol_pure rfl (op_move rfl) ?_
  refine ol_pure rfl (op_assign rfl) ?_
  refine ol_nil ?_
  refine pq_then ?_
  refine cw_ret ?_
  refine ret1 rfl rfl ?_
  rw [show k = rs.length from by omega] at hS hl5
  exact hS.rt_row [] (by decide) (Rows.ints (l := ofI rs a) fun x hx => by have := pickI_range hx; omega) EInt.mono hl5
end Go.Proofs.Ytmkgechdfimfnaa.K
