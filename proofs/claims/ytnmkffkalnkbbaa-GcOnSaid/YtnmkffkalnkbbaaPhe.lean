/-
  Plain words: variables that are bound, two places that are made alike, what is undone. No program of Go stands here.
  No condition but the premises of each theorem.
-/
import Derived.Test.YtnmkffkalnkbbaaPhd
namespace Go.Proofs.Ytnmkffkalnkbbaa.Pl
set_option linter.unusedVariables false
set_option linter.unusedSimpArgs false
def refC (y : Int) : Cell := ⟨1, ByteArray.empty, y⟩
def bindC (cs : List Cell) (x y : Int) : List Cell := cs.set x.toNat (refC y)
def freeC (cs : List Cell) (l : List Int) : List Cell := l.foldl (fun cs x => bindC cs x x) cs
def undoC (cs : List Cell) (tr : List Int) (a t : Nat) : List Cell := (freeC cs (tr.drop t)).take a
theorem bindC_len (cs : List Cell) (x y : Int) : (bindC cs x y).length = cs.length := by simp [bindC]
theorem freeC_len : ∀ (l : List Int) (cs : List Cell), (freeC cs l).length = cs.length
  | [], _ => rfl
  | x :: l, cs => by
    unfold freeC
    rw [List.foldl_cons]
    exact (freeC_len l _).trans (bindC_len _ _ _)
theorem freeC_snoc (cs : List Cell) (l : List Int) (x : Int) : freeC cs (l ++ [x]) = bindC (freeC cs l) x x := by simp [freeC]
theorem freeC_drop {cs : List Cell} {tr : List Int} {t k : Nat} (ht : t ≤ k) (h : k < tr.length) : freeC cs ((tr.take (k + 1)).drop t) = bindC (freeC cs ((tr.take k).drop t)) tr[k] tr[k] := by
  rw [List.take_succ_eq_append_getElem h, List.drop_append_of_le_length (by simp; omega), freeC_snoc]
theorem bindC_at {cs : List Cell} {x y : Int} (h0 : 0 ≤ x) {p : Nat} (hp : p < (bindC cs x y).length) (hp' : p < cs.length) : (bindC cs x y)[p] = if (p : Int) = x then refC y else cs[p] := by
  simp only [bindC, List.getElem_set]
  by_cases h : (p : Int) = x
  · rw [if_pos (by omega), if_pos h]
  · rw [if_neg (by omega), if_neg h]
theorem kindAt_bind {cs : List Cell} {x y : Int} (h0 : 0 ≤ x) (hx : kindAt cs x = 1) (a : Int) : kindAt (bindC cs x y) a = kindAt cs a := by
  unfold kindAt bindC
  rw [List.getElem?_set]
  by_cases h : x.toNat = a.toNat
  · rw [if_pos h]
    unfold kindAt at hx
    rw [h] at hx
    by_cases hl : x.toNat < cs.length
    · rw [if_pos hl]
      rw [h] at hl
      rw [List.getElem?_eq_getElem hl] at hx ⊢
      exact hx.symm
    · rw [if_neg hl]
      rw [List.getElem?_eq_none (by omega)]
  · rw [if_neg h]
theorem bind_sh {cs : List Cell} {x y : Int} (hs : ShOk cs) (h0 : 0 ≤ x) (hy0 : 0 ≤ y) (hy1 : y < cs.length) : ShOk (bindC cs x y) := fun p hp => by
  have hp' : p < cs.length := by rw [bindC_len] at hp; exact hp
  rw [bindC_at h0 hp hp']
  unfold SlotOk
  rw [bindC_len]
  split
  · exact .inl ⟨rfl, hy0, hy1⟩
  · exact hs p hp'
theorem leads_bind {cs : List Cell} {x y : Int} (h0 : 0 ≤ x) {p : Nat} (hp : p < cs.length) : leadsI (bindC cs x y) (p : Int) = if (p : Int) = x then (if y ≠ x then [y] else []) else leadsI cs (p : Int) := by
  have hp2 : p < (bindC cs x y).length := by rw [bindC_len]; exact hp
  rw [leadsI_at hp2, bindC_at h0 hp2 hp]
  by_cases h : (p : Int) = x
  · rw [if_pos h, if_pos h]
    by_cases hy : y = x
    · rw [if_neg (by simp [refC, h, hy]), if_neg (by simp [refC]), if_neg (by simp [hy])]
    · rw [if_pos (by simp [refC, h, hy]), if_pos hy]
      rfl
  · rw [if_neg h, if_neg h, leadsI_at hp]
/-- A free variable that is bound to what does not lead to it leads round nowhere. -/
theorem bind_rk {cs : List Cell} {x y : Int} (hs : ShOk cs) (hr : Rk cs) (h0 : 0 ≤ x) (h1 : x < cs.length) (hy0 : 0 ≤ y) (hy1 : y < cs.length) (hn : ¬ Rc cs y x) : Rk (bindC cs x y) := by
  obtain ⟨r, hr⟩ := hr
  classical
  refine ⟨fun p => if Rc cs (p : Int) x then r p + r y.toNat + 1 else r p, fun p hp q hq => ?_⟩
  rw [bindC_len] at hp
  rw [leads_bind h0 hp] at hq
  by_cases hpx : (p : Int) = x
  · rw [if_pos hpx] at hq
    split at hq
    · have hqy : (q : Int) = y := by simpa using hq
      have h2 : ¬ Rc cs (q : Int) x := by rw [hqy]; exact hn
      have h3 : Rc cs (p : Int) x := by rw [hpx]; exact .refl _
      simp only [if_neg h2, if_pos h3]
      have : q = y.toNat := by omega
      rw [← this]
      omega
    · cases hq
  · rw [if_neg hpx] at hq
    have h2 := hr p hp q hq
    by_cases h3 : Rc cs (q : Int) x
    · have h4 : Rc cs (p : Int) x := (Rc.step (.refl _) hq).trans h3
      simp only [if_pos h3, if_pos h4]
      omega
    · simp only [if_neg h3]
      split <;> omega
theorem Rc_free {cs : List Cell} {x y : Int} (h : Rc cs y x) (hl : leadsI cs y = []) : x = y := by
  induction h with
  | refl => rfl
  | step hb hc ih =>
    rename_i b c
    have hb' : b = y := ih
    rw [hb', hl] at hc
    cases hc
/-! ### Two places that are made alike -/
def pairsI (x y : Int) (m : Nat) : List (Int × Int) := (List.range m).map fun (i : Nat) => (x + 1 + i, y + 1 + i)
theorem pairsI_succ (x y : Int) (m : Nat) : pairsI x y (m + 1) = pairsI x y m ++ [(x + 1 + m, y + 1 + m)] := by simp [pairsI, List.range_succ]
theorem pairsI_len (x y : Int) (m : Nat) : (pairsI x y m).length = m := by simp [pairsI]
def cellAt (cs : List Cell) (a : Int) : Cell := cs.getD a.toNat ⟨0, ByteArray.empty, 0⟩
theorem cellAt_at {cs : List Cell} {k : Nat} (h : k < cs.length) : cellAt cs (k : Int) = cs[k] := by simp [cellAt, h]
def moreI (cs : List Cell) (x y : Int) : List (Int × Int) := if kindAt cs x = 4 then pairsI x y (cellAt cs x).n.toNat else []
/-- How two places are made alike: the pairs that are left, and those of two Tops that were taken. -/
def unif : Nat → List Cell → List Int → List (Int × Int) → List (Int × Int) → Option (List Cell × List Int)
  | _, cs, tr, [], _ => some (cs, tr)
  | 0, _, _, _ :: _, _ => none
  | n + 1, cs, tr, (a, b) :: row, seen =>
    let x := followC cs a
    let y := followC cs b
    if x = y ∨ (x, y) ∈ seen then unif n cs tr row seen
    else if kindAt cs x = 1 ∧ kindAt cs y = 1 then unif n (bindC cs (max x y) (min x y)) (tr ++ [max x y]) row seen
    else if kindAt cs y = 1 then (if atB (liveB cs [x]) y = true then none else unif n (bindC cs y x) (tr ++ [y]) row seen)
    else if kindAt cs x = 1 then (if atB (liveB cs [y]) x = true then none else unif n (bindC cs x y) (tr ++ [x]) row seen)
    else if sameC (cellAt cs x) (cellAt cs y) = true then unif n cs tr (moreI cs x y ++ row) (seen ++ [(x, y)])
    else none
def InP (n : Nat) (l : List (Int × Int)) : Prop := ∀ p ∈ l, (0 ≤ p.1 ∧ p.1 < n) ∧ 0 ≤ p.2 ∧ p.2 < n
structure UI (N n : Nat) (cs : List Cell) (row seen : List (Int × Int)) : Prop where
  len : cs.length = N
  sh : ShOk cs
  rk : Rk cs
  rowp : InP N row
  seenp : InP N seen
  nodup : seen.Nodup
  fuel : 7 * (N * N - seen.length) + row.length ≤ n
theorem pairs_le {N : Nat} {l : List (Int × Int)} (h : InP N l) (hn : l.Nodup) : l.length ≤ N * N := by
  have h1 : (l.map fun (p : Int × Int) => p.1 * (N : Int) + p.2).Nodup := by
    refine List.pairwise_map.2 (List.Pairwise.imp_of_mem (fun {a b} ha hb hab he => hab ?_) hn)
    have h2 := h a ha
    have h3 := h b hb
    have hN : (0 : Int) < N := by omega
    have e1 : a.1 = b.1 := by
      have g1 : (a.1 * N + a.2) / N = a.1 := by rw [Int.add_comm, Int.add_mul_ediv_right _ _ (by omega), Int.ediv_eq_zero_of_lt h2.2.1 h2.2.2, Int.zero_add]
      have g2 : (b.1 * N + b.2) / N = b.1 := by rw [Int.add_comm, Int.add_mul_ediv_right _ _ (by omega), Int.ediv_eq_zero_of_lt h3.2.1 h3.2.2, Int.zero_add]
      rw [← g1, ← g2, he]
    have e2 : a.2 = b.2 := by rw [e1] at he; omega
    exact Prod.ext e1 e2
  have h2 := nodup_le (n := N * N) h1 (fun x hx => by
    obtain ⟨p, hp, rfl⟩ := List.mem_map.1 hx
    have h3 := h p hp
    have h4 : 0 ≤ p.1 * N := Int.mul_nonneg h3.1.1 (by omega)
    have h5 : (p.1 + 1) * N ≤ (N : Int) * N := Int.mul_le_mul_of_nonneg_right (by omega) (by omega)
    rw [Int.add_mul, Int.one_mul] at h5
    rw [Int.natCast_mul]
    omega)
  simpa using h2
theorem UI.fol {N n : Nat} {cs : List Cell} {row seen : List (Int × Int)} (h : UI N n cs row seen) {a : Int} (h0 : 0 ≤ a) (h1 : a < N) : ∃ m, FolN cs m a (followC cs a) ∧ 0 ≤ followC cs a ∧ followC cs a < N := by
  obtain ⟨m, h2, h3⟩ := followC_ex h.sh h.rk h0 (by rw [h.len]; exact h1)
  rw [h.len] at h3
  exact ⟨m, h2, h3⟩
theorem UI.skip {N n : Nat} {cs : List Cell} {p : Int × Int} {row seen : List (Int × Int)} (h : UI N (n + 1) cs (p :: row) seen) : UI N n cs row seen :=
  ⟨h.len, h.sh, h.rk, fun x hx => h.rowp x (by simp [hx]), h.seenp, h.nodup, by have := h.fuel; simp only [List.length_cons] at this; omega⟩
theorem UI.pos {N n : Nat} {cs : List Cell} {p : Int × Int} {row seen : List (Int × Int)} (h : UI N n cs (p :: row) seen) : ∃ m, n = m + 1 := by
  have := h.fuel
  simp only [List.length_cons] at this
  exact ⟨n - 1, by omega⟩
/-- What is followed to its end, and is a variable, is free. -/
theorem fol_free {cs : List Cell} {x : Int} (hn : stepF cs x = none) (h0 : 0 ≤ x) (h1 : x < cs.length) (hk : kindAt cs x = 1) : leadsI cs x = [] ∧ (cellAt cs x).n = x := by
  obtain ⟨k, rfl⟩ := Int.eq_ofNat_of_zero_le h0
  have hl : k < cs.length := by omega
  rw [kindAt_at hl] at hk
  rw [stepF_at hl] at hn
  rw [cellAt_at hl, leadsI_at hl]
  by_cases h : cs[k].n = k
  · exact ⟨by rw [if_neg (by simp [h]; omega), if_neg (by omega)], h⟩
  · rw [if_pos (.inl ⟨hk, h⟩)] at hn
    cases hn
theorem UI.bind {N n : Nat} {cs : List Cell} {row seen : List (Int × Int)} (h : UI N n cs row seen) {x y : Int} (h0 : 0 ≤ x) (h1 : x < N) (hy0 : 0 ≤ y) (hy1 : y < N) (hn : ¬ Rc cs y x) : UI N n (bindC cs x y) row seen :=
  ⟨(bindC_len _ _ _).trans h.len, bind_sh h.sh h0 hy0 (by rw [h.len]; exact hy1), bind_rk h.sh h.rk h0 (by rw [h.len]; exact h1) hy0 (by rw [h.len]; exact hy1) hn, h.rowp, h.seenp, h.nodup, h.fuel⟩
theorem UI.more {N n : Nat} {cs : List Cell} {p : Int × Int} {row seen : List (Int × Int)} (h : UI N (n + 1) cs (p :: row) seen) {x y : Int} (h0 : 0 ≤ x) (h1 : x < N) (hy0 : 0 ≤ y) (hy1 : y < N) (hs : sameC (cellAt cs x) (cellAt cs y) = true) (hm : (x, y) ∉ seen) : UI N n cs (moreI cs x y ++ row) (seen ++ [(x, y)]) := by
  obtain ⟨i, rfl⟩ := Int.eq_ofNat_of_zero_le h0
  obtain ⟨j, rfl⟩ := Int.eq_ofNat_of_zero_le hy0
  have hi : i < cs.length := by rw [h.len]; omega
  have hj : j < cs.length := by rw [h.len]; omega
  have hml : (moreI cs i j).length ≤ 6 ∧ InP N (moreI cs i j) := by
    unfold moreI
    split
    · rename_i hk
      rw [kindAt_at hi] at hk
      rw [cellAt_at hi, cellAt_at hj] at hs
      simp only [sameC, Bool.and_eq_true, decide_eq_true_eq] at hs
      have g1 := h.sh i hi
      have g2 := h.sh j hj
      unfold SlotOk at g1 g2
      rw [h.len] at g1 g2
      rw [cellAt_at hi, pairsI_len]
      refine ⟨by omega, fun q hq => ?_⟩
      obtain ⟨k, hk2, rfl⟩ := List.mem_map.1 hq
      rw [List.mem_range] at hk2
      simp only
      omega
    · exact ⟨by simp, fun q hq => by cases hq⟩
  have hsn : InP N (seen ++ [((i : Int), (j : Int))]) := fun q hq => by
    rcases List.mem_append.1 hq with hq | hq
    · exact h.seenp q hq
    · have : q = ((i : Int), (j : Int)) := by simpa using hq
      subst this
      exact ⟨⟨h0, h1⟩, hy0, hy1⟩
  have hnd : (seen ++ [((i : Int), (j : Int))]).Nodup := by
    refine List.nodup_append.2 ⟨h.nodup, by simp, fun a ha b hb hab => ?_⟩
    have : b = ((i : Int), (j : Int)) := by simpa using hb
    subst this
    subst hab
    exact hm ha
  have hle := pairs_le hsn hnd
  have hf := h.fuel
  simp only [List.length_append, List.length_cons, List.length_nil] at hle hf
  refine ⟨h.len, h.sh, h.rk, fun q hq => ?_, hsn, hnd, ?_⟩
  · rcases List.mem_append.1 hq with hq | hq
    · exact hml.2 q hq
    · exact h.rowp q (by simp [hq])
  · simp only [List.length_append, List.length_cons, List.length_nil]
    have := hml.1
    generalize N * N = q at *
    omega
end Go.Proofs.Ytnmkffkalnkbbaa.Pl
