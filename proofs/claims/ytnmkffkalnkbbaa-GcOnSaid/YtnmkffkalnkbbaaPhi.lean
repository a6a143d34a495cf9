/-
  Plain words: a heap into which a term was put is right. No program of Go stands here.
  No condition but the premises of each theorem.
-/
import Derived.Test.YtnmkffkalnkbbaaPhh
namespace Go.Proofs.Ytnmkffkalnkbbaa.Pl
set_option linter.unusedVariables false
set_option linter.unusedSimpArgs false
def noH : Nat → Prop := fun _ => False
theorem leadsI_congr {cs cs' : List Cell} {p : Int} (h : cs'[p.toNat]? = cs[p.toNat]?) : leadsI cs' p = leadsI cs p := by
  unfold leadsI
  rw [h]
theorem kindAt_congr {cs cs' : List Cell} {p : Int} (h : cs'[p.toNat]? = cs[p.toNat]?) : kindAt cs' p = kindAt cs p := by
  unfold kindAt
  rw [h]
/-- Slots that lie ahead of others are as right as they were. -/
theorem SlotR.ext {cs cs' : List Cell} (hl : cs.length ≤ cs'.length) (hp : ∀ p, p < cs.length → cs'[p]? = cs[p]?) {p : Nat} {s : Cell} (h : SlotR cs p s) : SlotR cs' p s := by
  rcases h with ⟨h1, h2, h3, h4⟩ | h1 | ⟨h1, h2, h3, h4, h5⟩ | ⟨h1, h2, h3, h4, h5, h6⟩
  · exact .inl ⟨h1, h2, h3, by omega⟩
  · exact .inr (.inl h1)
  · exact .inr (.inr (.inl ⟨h1, h2, h3, by omega, by rw [kindAt_congr (hp _ (by omega))]; exact h5⟩))
  · exact .inr (.inr (.inr ⟨h1, h2, h3, by omega, h5, fun i hi hn => by rw [kindAt_congr (hp _ (by omega))]; exact h6 i hi hn⟩))
theorem FreeAt.lt {cs0 cs : List Cell} {x : Int} (h : FreeAt cs0 cs x) : 0 ≤ x ∧ x < cs.length := by
  obtain ⟨q, rfl, _, h3⟩ := h
  have := (List.getElem?_eq_some_iff.1 h3).1
  omega
theorem NewOk.slot {cs0 cs : List Cell} (hl : cs0.length ≤ cs.length) {p : Nat} {s : Cell} (h : NewOk cs0 cs p s) : SlotR cs p s := by
  rcases h with ⟨h1, h2, h3⟩ | h1 | ⟨h1, h2, h3, h4, h5⟩ | h1
  · refine .inl ⟨h1, h2, ?_⟩
    rcases h3 with h3 | h3
    · omega
    · exact h3.lt
  · exact .inr (.inl h1)
  · exact .inr (.inr (.inl ⟨h1, h2, by omega, h4, h5⟩))
  · exact .inr (.inr (.inr h1))
theorem StI.slr {cs0 : List Cell} {st : Stt} (h : StI cs0 noH st) (hs : SlR cs0) : SlR st.1 := fun p hp => by
  by_cases h0 : p < cs0.length
  · have h1 := h.pre p h0
    rw [List.getElem?_eq_getElem hp, List.getElem?_eq_getElem h0] at h1
    have h2 : st.1[p] = cs0[p] := by simpa using h1
    rw [h2]
    exact (hs p h0).ext h.len h.pre
  · exact (h.new p _ (by omega) (List.getElem?_eq_getElem hp) (fun hh => hh)).slot h.len
theorem StI.rk {cs0 : List Cell} {st : Stt} (h : StI cs0 noH st) (hs : SlR cs0) (hr : Rk cs0) : Rk st.1 := by
  obtain ⟨r, hr, hb⟩ := hr.small hs.ok
  let R := cs0.length + 1
  let f : Nat → Nat := fun p => if p < cs0.length then r p else match st.1[p]? with
    | some s => if s.kind = 1 then (if s.n = p then 0 else R) else if s.kind = 2 then 0 else R + 1 + (st.1.length - p)
    | none => 0
  have f0 : ∀ p, p < cs0.length → f p = r p := fun p hp => by simp only [f]; rw [if_pos hp]
  have f1 : ∀ p s, ¬ p < cs0.length → st.1[p]? = some s → f p = if s.kind = 1 then (if s.n = p then 0 else R) else if s.kind = 2 then 0 else R + 1 + (st.1.length - p) := fun p s hp hs => by simp only [f]; rw [if_neg hp, hs]
  have hlen := h.len
  refine ⟨f, fun p hp q hq => ?_⟩
  by_cases h0 : p < cs0.length
  · rw [leadsI_congr (show st.1[((p : Nat) : Int).toNat]? = cs0[((p : Nat) : Int).toNat]? from h.pre p h0)] at hq
    have h1 := hr p h0 q hq
    have h2 := leads_range hs.ok h0 hq
    rw [f0 p h0, f0 q (by omega)]
    exact h1
  · have hps : st.1[p]? = some st.1[p] := List.getElem?_eq_getElem hp
    have hn := h.new p _ (by omega) hps (fun hh => hh)
    rw [f1 p _ h0 hps]
    rw [leadsI_at hp] at hq
    rcases hn with ⟨h1, h2, h3⟩ | ⟨h1, h2⟩ | ⟨h1, h2, h3, h4, h5⟩ | ⟨h1, h2, h3, h4, h5, h6⟩
    · by_cases hnp : st.1[p].n = p
      · rw [if_neg (by omega), if_neg (by omega)] at hq
        cases hq
      · rw [if_pos (.inr ⟨h1, hnp⟩)] at hq
        have hqn : (q : Int) = st.1[p].n := by simpa using hq
        rw [if_pos h1, if_neg hnp]
        rcases h3 with h3 | ⟨q', h3, h4, h5⟩
        · rw [f0 q (by omega)]
          have := hb q (by omega)
          simp only [R]
          omega
        · have : q' = q := by omega
          subst this
          rw [f1 q' _ (by omega) h5, if_pos (show (refC (q' : Int)).kind = 1 from rfl), if_pos (show (refC (q' : Int)).n = q' from rfl)]
          simp only [R]
          omega
    · rw [if_neg (by omega), if_neg (by omega)] at hq
      cases hq
    · rw [if_pos (.inl h1)] at hq
      have hqn : (q : Int) = st.1[p].n := by simpa using hq
      have hql : q < st.1.length := by omega
      have hk : st.1[q].kind = 4 := by rw [← kindAt_at hql, hqn]; exact h5
      rw [f1 q _ (by omega) (List.getElem?_eq_getElem hql), if_neg (by omega), if_neg (by omega), if_neg (by omega), if_neg (by omega)]
      omega
    · rw [if_neg (by omega), if_pos h1] at hq
      obtain ⟨i, hi, hqi⟩ := List.mem_map.1 hq
      rw [List.mem_range] at hi
      have hql : q < st.1.length := by omega
      have hk : st.1[q].kind ≠ 4 := by
        have := h6 (i + 1) (by omega) (by omega)
        rw [show (p : Int) + ((i + 1 : Nat) : Int) = (q : Nat) from by omega, kindAt_at hql] at this
        exact this
      rw [if_neg (by omega), if_neg (by omega), f1 q _ (by omega) (List.getElem?_eq_getElem hql)]
      split
      · split <;> omega
      · split <;> omega
/-- A heap into which a term was put. -/
structure PutOk (cs : List Cell) (n : Nat) (r : Int × Stt) : Prop where
  slr : SlR r.2.1
  rk : Rk r.2.1
  len : cs.length ≤ r.2.1.length
  less : r.2.1.length ≤ cs.length + 2 * n
  pre : ∀ p, p < cs.length → r.2.1[p]? = cs[p]?
  atp : ∀ x ∈ r.2.2, x = -1 ∨ (0 ≤ x ∧ x < r.2.1.length)
  atl : r.2.2.length ≤ 1000
  place : 0 ≤ r.1 ∧ r.1 < r.2.1.length
theorem StI.put {cs0 : List Cell} {n : Nat} {r : Int × Stt} (hs : SlR cs0) (hr : Rk cs0) (h : StI cs0 noH r.2) (hl : r.2.1.length ≤ cs0.length + 2 * n) (ha : r.2.2.length ≤ 1000) (hp : 0 ≤ r.1 ∧ r.1 < r.2.1.length) : PutOk cs0 n r :=
  ⟨h.slr hs, h.rk hs hr, h.len, hl, h.pre, fun x hx => (h.atp x hx).imp id (Or.rec (fun hh => by have := h.len; omega) FreeAt.lt), ha, hp⟩
theorem putI_ok {cs : List Cell} {at_ : List Int} {t : List Cell} (hs : SlR cs) (hr : Rk cs) (hat : ∀ x ∈ at_, x = -1 ∨ (0 ≤ x ∧ x < cs.length)) (ha : at_.length ≤ 1000) (ht : isT t) : PutOk cs t.length (putI t (cs, at_)) := by
  have hpos := ht.pos
  have h0 : StI cs noH (cs, at_) := ⟨Nat.le_refl _, fun _ _ => rfl, fun x hx => (hat x hx).imp id .inl, fun p s hp hs' _ => by
    have := (List.getElem?_eq_some_iff.1 hs').1
    simp only at this
    omega⟩
  unfold putI
  by_cases h3 : (headC t).kind = 3
  · rw [if_pos h3]
    obtain ⟨g1, g2, g3⟩ := StI.fun_ t.length t (cs, at_) noH ht h3 (Nat.le_refl _) ha h0 (fun _ hh => hh.elim)
    have hl := funI_len t.length t (cs, at_) ht h3 (Nat.le_refl _) ha
    exact StI.put hs hr g1 (by simp only at hl ⊢; omega) hl.2.2 (by simp only at hl ⊢; omega)
  · rw [if_neg h3]
    have hb := ht.cellB _ ht.head
    have hpad : ∀ v : Nat, StI cs noH (cs, padI at_ v) := fun v => ⟨h0.len, h0.pre, fun x hx => (padI_mem hx).elim (h0.atp x) .inl, h0.new⟩
    by_cases h1 : (headC t).kind = 1 ∧ 0 ≤ varI at_ (headC t).n.toNat
    · rw [if_pos h1]
      have hho := ht.headOk (by omega) h3
      have hpl := padI_len at_ (headC t).n.toNat
      refine StI.put hs hr (hpad _) (by simp only; omega) (by simp only; omega) ?_
      simp only
      rcases padI_mem (varI_mem (at_ := at_) (v := (headC t).n.toNat)) with h5 | h5
      · rcases hat _ h5 with h6 | h6
        · omega
        · exact h6
      · omega
    · rw [if_neg h1]
      simp only
      have hx : StI cs noH (cs, if (headC t).kind = 1 then padI at_ (headC t).n.toNat else at_) := by
        split
        · exact hpad _
        · exact h0
      have hxl : (if (headC t).kind = 1 then padI at_ (headC t).n.toNat else at_).length ≤ 1000 := by
        split
        · rename_i hk1
          have hho := ht.headOk (by omega) h3
          have hpl := padI_len at_ (headC t).n.toNat
          omega
        · exact ha
      obtain ⟨g1, _⟩ := hx.add hb (fun hh => absurd hh h3)
      have hl := addI_len (st := (cs, if (headC t).kind = 1 then padI at_ (headC t).n.toNat else at_)) (t := t) hxl ht.headOk
      simp only at hl
      exact StI.put hs hr g1 (by simp only; omega) hl.2 (by simp only; omega)
end Go.Proofs.Ytnmkffkalnkbbaa.Pl
