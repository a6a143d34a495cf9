/-
  Plain words: terms that are put into a heap. No program of Go stands here.
  No condition but the premises of each theorem.
-/
import Derived.Test.YtnmkffkalnkbbaaPhe
namespace Go.Proofs.Ytnmkffkalnkbbaa.Pl
set_option linter.unusedVariables false
set_option linter.unusedSimpArgs false
/-! ### Terms and their parts -/
def isT (t : List Cell) : Prop := endI t 1 0 = t.length
def headC (t : List Cell) : Cell := t.headD ⟨0, ByteArray.empty, 0⟩
def partsGo (t : List Cell) : Nat → Nat → List (List Cell)
  | 0, _ => []
  | k + 1, a => if endI (t.drop a) 1 a < 0 then [] else ((t.take (endI (t.drop a) 1 a).toNat).drop a) :: partsGo t k (endI (t.drop a) 1 a).toNat
def partsI (t : List Cell) : List (List Cell) := if t = [] ∨ (headC t).kind ≠ 3 then [] else partsGo t (headC t).n.toNat 1
def nfC (c : Cell) : Int := if c.kind = 3 then c.n else 0
theorem stepE_nf (c : Cell) (o : Int) : stepE c o = o - 1 + nfC c := rfl
theorem nfC_nonneg {c : Cell} (h : cellB c = true) : 0 ≤ nfC c := by
  have := stepE_bound (o := 1) h
  rw [stepE_nf] at this
  omega
theorem endI_split : ∀ (l : List Cell) (p m i e : Int), 1 ≤ p → 0 ≤ m → 0 ≤ i → endI l (p + m) i = e → 0 ≤ e → ∃ j : Nat, 1 ≤ j ∧ j ≤ l.length ∧ endI l p i = i + j ∧ (m = 0 → e = i + j) ∧ (0 < m → endI (l.drop j) m (i + j) = e)
  | [], _, _, _, e, _, _, _, h, he => by
    rw [endI] at h
    omega
  | c :: l, p, m, i, e, hp, hm, hi, h, he => by
    rw [endI] at h
    by_cases hb : cellB c = true
    · rw [if_pos hb] at h
      have hn := nfC_nonneg hb
      rw [stepE_nf] at h
      by_cases h0 : p - 1 + nfC c = 0
      · refine ⟨1, by omega, by simp, ?_, fun h1 => ?_, fun h1 => ?_⟩
        · rw [endI, if_pos hb, stepE_nf, if_pos h0]
          rfl
        · rw [if_pos (by omega)] at h
          exact h.symm
        · rw [if_neg (by omega)] at h
          have e1 : p + m - 1 + nfC c = m := by omega
          rw [e1] at h
          exact h
      · rw [if_neg (by omega), show p + m - 1 + nfC c = (p - 1 + nfC c) + m from by omega] at h
        obtain ⟨j, h1, h2, h3, h4, h5⟩ := endI_split l (p - 1 + nfC c) m (i + 1) e (by omega) hm (by omega) h he
        refine ⟨j + 1, by omega, by simp only [List.length_cons]; omega, ?_, fun hm0 => ?_, fun hm0 => ?_⟩
        · rw [endI, if_pos hb, stepE_nf, if_neg h0, h3]
          omega
        · have := h4 hm0
          omega
        · have := h5 hm0
          rw [List.drop_succ_cons]
          rw [show i + ((j + 1 : Nat) : Int) = i + 1 + j from by omega]
          exact this
    · rw [if_neg hb] at h
      omega
theorem endI_take : ∀ (l : List Cell) (o i i2 : Int) (j : Nat), 0 ≤ i → endI l o i = i + j → endI (l.take j) o i2 = i2 + j
  | [], _, _, _, j, hi, h => by
    rw [endI] at h
    omega
  | c :: l, o, i, i2, j, hi, h => by
    rw [endI] at h
    by_cases hb : cellB c = true
    · rw [if_pos hb] at h
      cases j with
      | zero =>
        exfalso
        by_cases h0 : stepE c o = 0
        · rw [if_pos h0] at h
          omega
        · rw [if_neg h0] at h
          have hb' := stepE_bound (o := o) hb
          have key : ∀ (l : List Cell) (o i : Int), 0 ≤ i → endI l o i = -1 ∨ i + 1 ≤ endI l o i := by
            intro l
            induction l with
            | nil => exact fun o i _ => .inl rfl
            | cons c l ih =>
              intro o i hi
              rw [endI]
              split
              · split
                · exact .inr (Int.le_refl _)
                · rcases ih (stepE c o) (i + 1) (by omega) with h | h
                  · exact .inl h
                  · exact .inr (by omega)
              · exact .inl rfl
          rcases key l (stepE c o) (i + 1) (by omega) with h1 | h1 <;> omega
      | succ j =>
        rw [List.take_succ_cons, endI, if_pos hb]
        by_cases h0 : stepE c o = 0
        · rw [if_pos h0] at h ⊢
          omega
        · rw [if_neg h0] at h ⊢
          rw [endI_take l (stepE c o) (i + 1) (i2 + 1) j (by omega) (by omega)]
          omega
    · rw [if_neg hb] at h
      omega
theorem endI_cellB : ∀ (l : List Cell) (o i : Int), 0 ≤ i → endI l o i = i + l.length → ∀ c ∈ l, cellB c = true
  | [], _, _, _, _, c, hc => by cases hc
  | x :: l, o, i, h0, h, c, hc => by
    rw [endI] at h
    simp only [List.length_cons] at h
    by_cases h1 : cellB x = true
    · rw [if_pos h1] at h
      by_cases h2 : stepE x o = 0
      · rw [if_pos h2] at h
        have hl : l = [] := List.eq_nil_of_length_eq_zero (by omega)
        subst hl
        have : c = x := by simpa using hc
        rw [this]; exact h1
      · rw [if_neg h2] at h
        rcases List.mem_cons.1 hc with rfl | hc
        · exact h1
        · exact endI_cellB l (stepE x o) (i + 1) (by omega) (by omega) c hc
    · rw [if_neg h1] at h
      omega
theorem isT.cellB {t : List Cell} (h : isT t) : ∀ c ∈ t, Pl.cellB c = true := endI_cellB t 1 0 (by omega) (by unfold isT at h; omega)
theorem isT.pos {t : List Cell} (h : isT t) : 0 < t.length := by
  cases t with
  | nil => simp [isT, endI] at h
  | cons c t => simp
theorem isT.head {t : List Cell} (h : isT t) : headC t ∈ t := by
  cases t with
  | nil => simp [isT, endI] at h
  | cons c t => simp [headC]
def lenS (l : List (List Cell)) : Nat := (l.map List.length).sum
/-- The parts of a term that is whole. -/
theorem partsGo_ok {t : List Cell} : ∀ (k a : Nat), 0 < k → endI (t.drop a) k a = t.length → (partsGo t k a).length = k ∧ (∀ p ∈ partsGo t k a, isT p ∧ ∀ c ∈ p, c ∈ t) ∧ a + lenS (partsGo t k a) = t.length
  | 0, _, h, _ => by omega
  | k + 1, a, _, h => by
    obtain ⟨j, h1, h2, h3, h4, h5⟩ := endI_split (t.drop a) 1 k a t.length (by omega) (by omega) (by omega) (by rw [← h]; congr 1; omega) (by omega)
    simp only [List.length_drop] at h2
    have hx : (endI (t.drop a) 1 a).toNat = a + j := by omega
    have hl : ((t.take (a + j)).drop a).length = j := by simp; omega
    have hd : (t.take (a + j)).drop a = (t.drop a).take j := by rw [List.drop_take]; congr 1; omega
    have hp : isT ((t.take (a + j)).drop a) := by
      have := endI_take (t.drop a) 1 a 0 j (by omega) h3
      unfold isT
      rw [hd, this, ← hd, hl]
      omega
    rw [partsGo, if_neg (by omega), hx]
    have hm : ∀ c ∈ (t.take (a + j)).drop a, c ∈ t := fun c hc => List.mem_of_mem_take (List.mem_of_mem_drop hc)
    by_cases hk : k = 0
    · subst hk
      have h6 := h4 rfl
      refine ⟨by simp [partsGo], fun p hp' => ?_, ?_⟩
      · rw [partsGo] at hp'
        have : p = (t.take (a + j)).drop a := by simpa using hp'
        subst this
        exact ⟨hp, hm⟩
      · rw [partsGo]
        simp [lenS, hl]
        omega
    · have h6 := h5 (by omega)
      rw [List.drop_drop] at h6
      obtain ⟨g1, g2, g3⟩ := partsGo_ok k (a + j) (by omega) (by rw [← h6]; congr 1)
      refine ⟨by simp [g1], fun p hp' => ?_, ?_⟩
      · rcases List.mem_cons.1 hp' with rfl | hp'
        · exact ⟨hp, hm⟩
        · exact g2 p hp'
      · unfold lenS at g3 ⊢
        rw [List.map_cons, List.sum_cons, hl]
        omega
theorem partsI_ok {t : List Cell} (h : isT t) (h3 : (headC t).kind = 3) : ((partsI t).length : Int) = (headC t).n ∧ (∀ p ∈ partsI t, isT p ∧ ∀ c ∈ p, c ∈ t) ∧ 1 + lenS (partsI t) = t.length := by
  cases t with
  | nil => simp [isT, endI] at h
  | cons c t =>
    have hb := h.cellB c (by simp)
    have h3' : c.kind = 3 := h3
    have hn := nfC_nonneg hb
    have hnf : nfC c = c.n := by simp [nfC, h3']
    unfold isT at h
    rw [endI, if_pos hb, stepE_nf] at h
    unfold partsI
    rw [if_neg (by simp [headC, h3'])]
    show ((partsGo (c :: t) c.n.toNat 1).length : Int) = c.n ∧ (∀ p ∈ partsGo (c :: t) c.n.toNat 1, isT p ∧ ∀ x ∈ p, x ∈ c :: t) ∧ 1 + lenS (partsGo (c :: t) c.n.toNat 1) = (c :: t).length
    by_cases h0 : c.n = 0
    · rw [if_pos (by omega)] at h
      rw [h0]
      simp only [Int.toNat_zero, partsGo]
      have h9 : t.length = 0 := by simp only [List.length_cons] at h; omega
      exact ⟨rfl, by simp, by simp only [lenS, List.map_nil, List.sum_nil, List.length_cons]; omega⟩
    · rw [if_neg (by omega)] at h
      obtain ⟨g1, g2, g3⟩ := partsGo_ok (t := c :: t) c.n.toNat 1 (by omega) (by
        rw [List.drop_succ_cons, List.drop_zero, ← h]
        congr 1
        omega)
      exact ⟨by rw [g1]; omega, g2, g3⟩
/-! ### What is put -/
abbrev Stt := List Cell × List Int
def padI (at_ : List Int) (v : Nat) : List Int := at_ ++ List.replicate (v + 1 - at_.length) (-1)
theorem padI_len (at_ : List Int) (v : Nat) : (padI at_ v).length = at_.length + (v + 1 - at_.length) := by simp [padI]
theorem padI_step {at_ : List Int} {v : Nat} (h : at_.length ≤ v) : padI (at_ ++ [-1]) v = padI at_ v := by
  unfold padI
  rw [List.append_assoc]
  congr 1
  rw [List.length_append, show v + 1 - at_.length = (v + 1 - (at_.length + [(-1 : Int)].length)) + 1 from by simp; omega, List.replicate_succ]
  rfl
theorem padI_done {at_ : List Int} {v : Nat} (h : v < at_.length) : padI at_ v = at_ := by
  unfold padI
  rw [show v + 1 - at_.length = 0 from by omega]
  simp
def varI (at_ : List Int) (v : Nat) : Int := (padI at_ v).getD v 0
def oneI (at_ : List Int) (c : Cell) (place : Nat) : Cell × List Int :=
  if c.kind = 2 then (⟨2, ByteArray.empty, c.n⟩, at_) else if c.kind = 3 then (⟨3, ByteArray.empty, 0⟩, at_)
  else if varI at_ c.n.toNat < 0 then (refC place, (padI at_ c.n.toNat).set c.n.toNat place) else (refC (varI at_ c.n.toNat), padI at_ c.n.toNat)
def addI (st : Stt) (t : List Cell) : Stt := (st.1 ++ [(oneI st.2 (headC t) st.1.length).1], (oneI st.2 (headC t) st.1.length).2)
def setN (cs : List Cell) (i : Nat) (n : Int) : List Cell := cs.set i ⟨(cs.getD i ⟨0, ByteArray.empty, 0⟩).kind, (cs.getD i ⟨0, ByteArray.empty, 0⟩).name, n⟩
def fillS (f : List Cell → Stt → Stt) (place : Nat) (ps : List (List Cell)) (i : Nat) (st : Stt) : Stt :=
  if (headC (ps.getD i [])).kind = 3 then (setN (f (ps.getD i []) st).1 (place + 1 + i) st.1.length, (f (ps.getD i []) st).2) else st
def fillN (f : List Cell → Stt → Stt) (place : Nat) (ps : List (List Cell)) : Nat → Stt → Stt
  | 0, st => st
  | i + 1, st => fillS f place ps i (fillN f place ps i st)
def topI (t : List Cell) (st : Stt) : Stt := (partsI t).foldl addI (st.1 ++ [⟨4, (headC t).name, (headC t).n⟩], st.2)
def funI : Nat → List Cell → Stt → Stt
  | 0, _, st => st
  | k + 1, t, st => fillN (funI k) st.1.length (partsI t) (partsI t).length (topI t st)
def putI (t : List Cell) (st : Stt) : Int × Stt :=
  if (headC t).kind = 3 then ((st.1.length : Int), funI t.length t st)
  else if (headC t).kind = 1 ∧ 0 ≤ varI st.2 (headC t).n.toNat then (varI st.2 (headC t).n.toNat, (st.1, padI st.2 (headC t).n.toNat))
  else ((st.1.length : Int), addI (st.1, if (headC t).kind = 1 then padI st.2 (headC t).n.toNat else st.2) t)
end Go.Proofs.Ytnmkffkalnkbbaa.Pl
