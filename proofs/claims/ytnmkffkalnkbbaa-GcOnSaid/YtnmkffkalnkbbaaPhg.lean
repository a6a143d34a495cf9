/-
  Plain words: how much is put; what is put is right. No program of Go stands here.
  No condition but the premises of each theorem.
-/
import Derived.Test.YtnmkffkalnkbbaaPhf
namespace Go.Proofs.Ytnmkffkalnkbbaa.Pl
set_option linter.unusedVariables false
set_option linter.unusedSimpArgs false
def HeadOk (t : List Cell) : Prop := (headC t).kind ≠ 2 → (headC t).kind ≠ 3 → 0 ≤ (headC t).n ∧ (headC t).n ≤ 999
theorem cellB_head {c : Cell} (h : cellB c = true) : c.kind ≠ 2 → c.kind ≠ 3 → c.kind = 1 ∧ 0 ≤ c.n ∧ c.n ≤ 999 := fun h2 h3 => by
  unfold cellB at h
  by_cases h1 : c.kind = 1
  · rw [if_pos h1] at h
    simp only [Bool.and_eq_true, decide_eq_true_eq] at h
    exact ⟨h1, h.1.2, h.2⟩
  · rw [if_neg h1, if_neg h2, if_neg h3] at h
    cases h
theorem isT.headOk {t : List Cell} (h : isT t) : HeadOk t := fun h2 h3 => (cellB_head (h.cellB _ h.head) h2 h3).2
theorem oneI_len {at_ : List Int} {c : Cell} {place : Nat} (h : at_.length ≤ 1000) (hc : c.kind ≠ 2 → c.kind ≠ 3 → 0 ≤ c.n ∧ c.n ≤ 999) : (oneI at_ c place).2.length ≤ 1000 := by
  unfold oneI
  split
  · exact h
  · split
    · exact h
    · rename_i h2 h3
      have := hc h2 h3
      have hl := padI_len at_ c.n.toNat
      split
      · simp; omega
      · simp only; omega
theorem addI_len {st : Stt} {t : List Cell} (h : st.2.length ≤ 1000) (hc : HeadOk t) : (addI st t).1.length = st.1.length + 1 ∧ (addI st t).2.length ≤ 1000 := ⟨by simp [addI], oneI_len h hc⟩
theorem addAll_len : ∀ (ps : List (List Cell)) (st : Stt), st.2.length ≤ 1000 → (∀ p ∈ ps, HeadOk p) → (ps.foldl addI st).1.length = st.1.length + ps.length ∧ (ps.foldl addI st).2.length ≤ 1000
  | [], st, h, _ => ⟨rfl, h⟩
  | p :: ps, st, h, hp => by
    have h1 := addI_len h (hp p (by simp))
    have h2 := addAll_len ps (addI st p) h1.2 (fun q hq => hp q (by simp [hq]))
    rw [List.foldl_cons]
    refine ⟨?_, h2.2⟩
    rw [h2.1, h1.1, List.length_cons]
    omega
theorem topI_len {t : List Cell} {st : Stt} (ht : isT t) (h3 : (headC t).kind = 3) (h : st.2.length ≤ 1000) : (topI t st).1.length = st.1.length + 1 + (partsI t).length ∧ (topI t st).2.length ≤ 1000 := by
  have h1 := addAll_len (partsI t) (st.1 ++ [⟨4, (headC t).name, (headC t).n⟩], st.2) h (fun p hp => ((partsI_ok ht h3).2.1 p hp).1.headOk)
  unfold topI
  rw [h1.1]
  refine ⟨by simp, h1.2⟩
theorem setN_len (cs : List Cell) (i : Nat) (n : Int) : (setN cs i n).length = cs.length := by simp [setN]
theorem lenS_succ {ps : List (List Cell)} {i : Nat} (h : i < ps.length) : lenS (ps.take (i + 1)) = lenS (ps.take i) + ps[i].length := by
  unfold lenS
  rw [List.take_succ_eq_append_getElem h, List.map_append, List.sum_append]
  simp
theorem lenS_take (ps : List (List Cell)) (i : Nat) : lenS (ps.take i) ≤ lenS ps := by
  have h : ps = ps.take i ++ ps.drop i := (List.take_append_drop i ps).symm
  conv => rhs; rw [h]
  unfold lenS
  rw [List.map_append, List.sum_append]
  omega
theorem lenS_mem {ps : List (List Cell)} {i : Nat} (h : i < ps.length) : ps[i].length ≤ lenS ps := by
  have h1 := lenS_succ h
  have h2 := lenS_take ps (i + 1)
  omega
theorem lenS_count {ps : List (List Cell)} (h : ∀ p ∈ ps, 0 < p.length) : ps.length ≤ lenS ps := by
  induction ps with
  | nil => simp
  | cons p ps ih =>
    have h1 := ih fun q hq => h q (by simp [hq])
    have h2 := h p (by simp)
    unfold lenS at h1 ⊢
    simp only [List.map_cons, List.sum_cons, List.length_cons]
    omega
theorem getD_at {ps : List (List Cell)} {i : Nat} (h : i < ps.length) : ps.getD i [] = ps[i] := by simp [h]
/-- How much is put. -/
theorem fillN_len {f : List Cell → Stt → Stt} {place : Nat} {ps : List (List Cell)} {st : Stt} (hp : ∀ p ∈ ps, isT p) (hst : st.2.length ≤ 1000)
    (hf : ∀ p ∈ ps, (headC p).kind = 3 → ∀ s : Stt, s.2.length ≤ 1000 → s.1.length ≤ (f p s).1.length ∧ (f p s).1.length + 1 ≤ s.1.length + 2 * p.length ∧ (f p s).2.length ≤ 1000) :
    ∀ i, i ≤ ps.length → st.1.length ≤ (fillN f place ps i st).1.length ∧ (fillN f place ps i st).1.length + i ≤ st.1.length + 2 * lenS (ps.take i) ∧ (fillN f place ps i st).2.length ≤ 1000
  | 0, _ => ⟨Nat.le_refl _, by simp [fillN, lenS], hst⟩
  | i + 1, hi => by
    obtain ⟨h1, h2, h3⟩ := fillN_len hp hst hf i (by omega)
    have hl := lenS_succ (ps := ps) (i := i) (by omega)
    have hm : ps[i] ∈ ps := List.getElem_mem _
    have hpos := (hp _ hm).pos
    rw [fillN, fillS, getD_at (by omega : i < ps.length)]
    split
    · rename_i hk
      obtain ⟨g1, g2, g3⟩ := hf _ hm hk _ h3
      refine ⟨?_, ?_, g3⟩ <;> (simp only [setN_len]; omega)
    · exact ⟨h1, by omega, h3⟩
theorem funI_len : ∀ (k : Nat) (t : List Cell) (st : Stt), isT t → (headC t).kind = 3 → t.length ≤ k → st.2.length ≤ 1000 → st.1.length + 1 + (partsI t).length ≤ (funI k t st).1.length ∧ (funI k t st).1.length + 1 ≤ st.1.length + 2 * t.length ∧ (funI k t st).2.length ≤ 1000
  | 0, t, _, ht, _, hk, _ => by
    have := ht.pos
    omega
  | k + 1, t, st, ht, h3, hk, ha => by
    obtain ⟨p1, p2, p3⟩ := partsI_ok ht h3
    obtain ⟨t1, t2⟩ := topI_len (st := st) ht h3 ha
    obtain ⟨g1, g2, g3⟩ := fillN_len (f := funI k) (place := st.1.length) (ps := partsI t) (st := topI t st) (fun p hp => (p2 p hp).1) t2 (fun p hp hk3 s hs => by
      obtain ⟨i, hi, rfl⟩ := List.getElem_of_mem hp
      have := lenS_mem hi
      obtain ⟨a1, a2, a3⟩ := funI_len k (partsI t)[i] s (p2 _ hp).1 hk3 (by omega) hs
      exact ⟨by omega, a2, a3⟩) (partsI t).length (Nat.le_refl _)
    rw [List.take_length] at g2
    rw [funI]
    have := lenS_count (ps := partsI t) (fun p hp => (p2 p hp).1.pos)
    exact ⟨by omega, by omega, g3⟩
theorem fillN_fun_len {k : Nat} {t : List Cell} {st : Stt} (ht : isT t) (h3 : (headC t).kind = 3) (hk : t.length ≤ k + 1) (ha : st.2.length ≤ 1000) {i : Nat} (hi : i ≤ (partsI t).length) :
    st.1.length + 1 + (partsI t).length ≤ (fillN (funI k) st.1.length (partsI t) i (topI t st)).1.length ∧ (fillN (funI k) st.1.length (partsI t) i (topI t st)).1.length ≤ st.1.length + 3 * t.length ∧ (fillN (funI k) st.1.length (partsI t) i (topI t st)).2.length ≤ 1000 := by
  obtain ⟨p1, p2, p3⟩ := partsI_ok ht h3
  obtain ⟨t1, t2⟩ := topI_len (st := st) ht h3 ha
  obtain ⟨g1, g2, g3⟩ := fillN_len (f := funI k) (place := st.1.length) (ps := partsI t) (st := topI t st) (fun p hp => (p2 p hp).1) t2 (fun p hp hk3 s hs => by
    obtain ⟨i, hi, rfl⟩ := List.getElem_of_mem hp
    have := lenS_mem hi
    obtain ⟨a1, a2, a3⟩ := funI_len k (partsI t)[i] s (p2 _ hp).1 hk3 (by omega) hs
    exact ⟨by omega, a2, a3⟩) i hi
  have h4 := lenS_take (partsI t) i
  have h5 := lenS_count (ps := partsI t) (fun p hp => (p2 p hp).1.pos)
  exact ⟨by omega, by omega, g3⟩
end Go.Proofs.Ytnmkffkalnkbbaa.Pl
