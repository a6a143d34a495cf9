/-
  Plain words: what is put is right. No program of Go stands here.
  No condition but the premises of each theorem.
-/
import Derived.Test.YtnmkffkalnkbbaaPhg
namespace Go.Proofs.Ytnmkffkalnkbbaa.Pl
set_option linter.unusedVariables false
set_option linter.unusedSimpArgs false
theorem empty_toList : ByteArray.empty.toList = [] := by decide +kernel
/-- A free variable that stands behind the old slots. -/
def FreeAt (cs0 cs : List Cell) (x : Int) : Prop := ∃ q : Nat, x = q ∧ cs0.length ≤ q ∧ cs[q]? = some (refC q)
def NewOk (cs0 cs : List Cell) (p : Nat) (s : Cell) : Prop :=
  (s.kind = 1 ∧ s.name.toList = [] ∧ ((0 ≤ s.n ∧ s.n < cs0.length) ∨ FreeAt cs0 cs s.n)) ∨ (s.kind = 2 ∧ s.name.toList = [] ∧ -2147483647 ≤ s.n ∧ s.n ≤ 2147483647) ∨
  (s.kind = 3 ∧ s.name.toList = [] ∧ (p : Int) < s.n ∧ s.n < cs.length ∧ kindAt cs s.n = 4) ∨ (s.kind = 4 ∧ 0 ≤ s.n ∧ s.n ≤ 6 ∧ (p : Int) + s.n < cs.length ∧ nameB s.name = true ∧ ∀ i : Nat, 1 ≤ i → (i : Int) ≤ s.n → kindAt cs ((p : Int) + i) ≠ 4)
structure StI (cs0 : List Cell) (H : Nat → Prop) (st : Stt) : Prop where
  len : cs0.length ≤ st.1.length
  pre : ∀ p, p < cs0.length → st.1[p]? = cs0[p]?
  atp : ∀ x ∈ st.2, x = -1 ∨ (0 ≤ x ∧ x < cs0.length) ∨ FreeAt cs0 st.1 x
  new : ∀ (p : Nat) (s : Cell), cs0.length ≤ p → st.1[p]? = some s → ¬ H p → NewOk cs0 st.1 p s
theorem kindAt_some {cs : List Cell} {a : Int} {s : Cell} (h : cs[a.toNat]? = some s) : kindAt cs a = s.kind := by
  unfold kindAt
  rw [h]
/-- Kinds and free variables that stay. -/
structure Keep (cs0 cs cs' : List Cell) : Prop where
  len : cs.length ≤ cs'.length
  kind : ∀ q : Nat, q < cs.length → kindAt cs' (q : Int) = kindAt cs (q : Int)
  free : ∀ x, FreeAt cs0 cs x → FreeAt cs0 cs' x
theorem Keep.ok {cs0 cs cs' : List Cell} (h : Keep cs0 cs cs') {p : Nat} {s : Cell} (hn : NewOk cs0 cs p s) : NewOk cs0 cs' p s := by
  rcases hn with ⟨h1, h2, h3⟩ | h1 | ⟨h1, h2, h3, h4, h5⟩ | ⟨h1, h2, h3, h4, h5, h6⟩
  · exact .inl ⟨h1, h2, h3.imp id (h.free _)⟩
  · exact .inr (.inl h1)
  · have := h.len
    obtain ⟨k, hk⟩ := Int.eq_ofNat_of_zero_le (a := s.n) (by omega)
    refine .inr (.inr (.inl ⟨h1, h2, h3, by omega, ?_⟩))
    rw [hk] at h5 ⊢
    rw [h.kind k (by omega)]
    exact h5
  · have := h.len
    refine .inr (.inr (.inr ⟨h1, h2, h3, by omega, h5, fun i hi hn => ?_⟩))
    have h7 := h6 i hi hn
    rw [show (p : Int) + (i : Nat) = ((p + i : Nat) : Int) from by omega] at h7 ⊢
    rw [h.kind (p + i) (by omega)]
    exact h7
theorem Keep.app (cs0 cs : List Cell) (s : Cell) : Keep cs0 cs (cs ++ [s]) := by
  refine ⟨by simp, fun q hq => ?_, fun x ⟨q, h1, h2, h3⟩ => ⟨q, h1, h2, ?_⟩⟩
  · unfold kindAt
    rw [show ((q : Nat) : Int).toNat = q from rfl, List.getElem?_append_left hq]
  · rw [List.getElem?_append_left (List.getElem?_eq_some_iff.1 h3).1]
    exact h3
theorem Keep.setN (cs0 cs : List Cell) {q : Nat} (hq : q < cs.length) (hk : cs[q].kind = 3) (n : Int) : Keep cs0 cs (setN cs q n) := by
  have hat : ∀ p : Nat, (Pl.setN cs q n)[p]? = if q = p then some ⟨cs[q].kind, cs[q].name, n⟩ else cs[p]? := fun p => by
    unfold Pl.setN
    rw [List.getElem?_set]
    by_cases h : q = p
    · subst h
      simp [hq]
    · rw [if_neg h, if_neg h]
  refine ⟨by rw [setN_len]; exact Nat.le_refl _, fun p hp => ?_, fun x ⟨p, h1, h2, h3⟩ => ⟨p, h1, h2, ?_⟩⟩
  · unfold kindAt
    rw [show ((p : Nat) : Int).toNat = p from rfl, hat]
    by_cases h : q = p
    · subst h
      rw [if_pos rfl, List.getElem?_eq_getElem hq]
    · rw [if_neg h]
  · rw [hat]
    by_cases h : q = p
    · subst h
      rw [List.getElem?_eq_getElem hq] at h3
      have : cs[q] = refC q := by simpa using h3
      rw [this] at hk
      cases hk
    · rw [if_neg h]
      exact h3
/-- A slot is laid behind the others. -/
theorem StI.app {cs0 : List Cell} {H : Nat → Prop} {st : Stt} (h : StI cs0 H st) {s : Cell} {at' : List Int} (hat : ∀ x ∈ at', x = -1 ∨ (0 ≤ x ∧ x < cs0.length) ∨ FreeAt cs0 (st.1 ++ [s]) x) (hs : H st.1.length ∨ NewOk cs0 (st.1 ++ [s]) st.1.length s) : StI cs0 H (st.1 ++ [s], at') := by
  have hk := Keep.app cs0 st.1 s
  refine ⟨Nat.le_trans h.len hk.len, fun p hp => ?_, hat, fun p u hp hu hH => ?_⟩
  · rw [List.getElem?_append_left (by have := h.len; omega)]
    exact h.pre p hp
  · by_cases hpl : p < st.1.length
    · simp only at hu
      rw [List.getElem?_append_left hpl] at hu
      exact hk.ok (h.new p u hp hu hH)
    · have hp2 := (List.getElem?_eq_some_iff.1 hu).1
      simp only [List.length_append, List.length_cons, List.length_nil] at hp2
      have : p = st.1.length := by omega
      subst this
      simp only [List.getElem?_append_right (Nat.le_refl _), Nat.sub_self, List.getElem?_cons_zero, Option.some.injEq] at hu
      subst hu
      exact hs.resolve_left hH
theorem StI.hole {cs0 : List Cell} {H H' : Nat → Prop} {st : Stt} (h : StI cs0 H st) (hH : ∀ p, ¬ H' p → cs0.length ≤ p → p < st.1.length → ¬ H p ∨ ∀ s, st.1[p]? = some s → NewOk cs0 st.1 p s) : StI cs0 H' st :=
  ⟨h.len, h.pre, h.atp, fun p s hp hs hn => by
    rcases hH p hn hp (List.getElem?_eq_some_iff.1 hs).1 with h1 | h1
    · exact h.new p s hp hs h1
    · exact h1 s hs⟩
theorem padI_mem {at_ : List Int} {v : Nat} {x : Int} (h : x ∈ padI at_ v) : x ∈ at_ ∨ x = -1 := by
  unfold padI at h
  rcases List.mem_append.1 h with h | h
  · exact .inl h
  · exact .inr (List.eq_of_mem_replicate h)
theorem varI_mem {at_ : List Int} {v : Nat} : varI at_ v ∈ padI at_ v := by
  have hl := padI_len at_ v
  have hv : v < (padI at_ v).length := by omega
  have : varI at_ v = (padI at_ v)[v] := by simp [varI, hv]
  rw [this]
  exact List.getElem_mem _
/-- One slot of a term's part. -/
theorem StI.add {cs0 : List Cell} {H : Nat → Prop} {st : Stt} (h : StI cs0 H st) {t : List Cell} (hb : cellB (headC t) = true) (hH : (headC t).kind = 3 → H st.1.length) :
    StI cs0 H (addI st t) ∧ ∃ s, (addI st t).1 = st.1 ++ [s] ∧ s.kind ≠ 4 ∧ ((headC t).kind = 3 → s = ⟨3, ByteArray.empty, 0⟩) := by
  unfold addI
  by_cases h2 : (headC t).kind = 2
  · have ho : oneI st.2 (headC t) st.1.length = (⟨2, ByteArray.empty, (headC t).n⟩, st.2) := by unfold oneI; rw [if_pos h2]
    rw [ho]
    refine ⟨h.app (fun x hx => (h.atp x hx).imp id (Or.imp id ((Keep.app _ _ _).free x))) (.inr (.inr (.inl ⟨rfl, empty_toList, ?_⟩))), _, rfl, by simp, fun h3 => by omega⟩
    simp [cellB, h2] at hb
    simp only
    omega
  · by_cases h3 : (headC t).kind = 3
    · have ho : oneI st.2 (headC t) st.1.length = (⟨3, ByteArray.empty, 0⟩, st.2) := by unfold oneI; rw [if_neg h2, if_pos h3]
      rw [ho]
      exact ⟨h.app (fun x hx => (h.atp x hx).imp id (Or.imp id ((Keep.app _ _ _).free x))) (.inl (hH h3)), _, rfl, by simp, fun _ => rfl⟩
    · have hmem : ∀ (s : Cell) (x : Int), x ∈ padI st.2 (headC t).n.toNat → x = -1 ∨ (0 ≤ x ∧ x < cs0.length) ∨ FreeAt cs0 (st.1 ++ [s]) x := fun s x hx => by
        rcases padI_mem hx with hx | hx
        · exact (h.atp x hx).imp id (Or.imp id ((Keep.app _ _ _).free x))
        · exact .inl hx
      have hnew : FreeAt cs0 (st.1 ++ [refC (st.1.length : Nat)]) (st.1.length : Nat) := ⟨st.1.length, rfl, h.len, by simp⟩
      by_cases hv : varI st.2 (headC t).n.toNat < 0
      · have ho : oneI st.2 (headC t) st.1.length = (refC (st.1.length : Nat), (padI st.2 (headC t).n.toNat).set (headC t).n.toNat (st.1.length : Nat)) := by unfold oneI; rw [if_neg h2, if_neg h3, if_pos hv]
        rw [ho]
        refine ⟨h.app (fun x hx => ?_) (.inr (.inl ⟨rfl, empty_toList, .inr hnew⟩)), _, rfl, by simp [refC], fun hh => absurd hh h3⟩
        rcases List.mem_or_eq_of_mem_set hx with hx | rfl
        · exact hmem _ x hx
        · exact .inr (.inr hnew)
      · have ho : oneI st.2 (headC t) st.1.length = (refC (varI st.2 (headC t).n.toNat), padI st.2 (headC t).n.toNat) := by unfold oneI; rw [if_neg h2, if_neg h3, if_neg hv]
        rw [ho]
        refine ⟨h.app (hmem _) (.inr (.inl ⟨rfl, empty_toList, ?_⟩)), _, rfl, by simp [refC], fun hh => absurd hh h3⟩
        rcases hmem (refC (varI st.2 (headC t).n.toNat)) _ varI_mem with h5 | h5
        · omega
        · exact h5
/-- All slots of a term's parts. -/
theorem StI.addAll {cs0 : List Cell} {H : Nat → Prop} : ∀ (ps : List (List Cell)) (st : Stt) (b : Nat), st.1.length = b → StI cs0 H st → (∀ p ∈ ps, cellB (headC p) = true) → (∀ (i : Nat) (h : i < ps.length), (headC ps[i]).kind = 3 → H (b + i)) →
    StI cs0 H (ps.foldl addI st) ∧ (ps.foldl addI st).1.length = b + ps.length ∧ (∀ p, p < b → (ps.foldl addI st).1[p]? = st.1[p]?) ∧ ∀ (i : Nat) (h : i < ps.length), ∃ s, (ps.foldl addI st).1[b + i]? = some s ∧ s.kind ≠ 4 ∧ ((headC ps[i]).kind = 3 → s = ⟨3, ByteArray.empty, 0⟩)
  | [], st, b, hb, h, _, _ => ⟨h, by simp [hb], fun _ _ => rfl, fun i hi => absurd hi (by simp)⟩
  | p :: ps, st, b, hb, h, hp, hH => by
    obtain ⟨h1, s, h2, h3, h4⟩ := h.add (hp p (by simp)) (fun hk => by rw [hb]; exact hH 0 (by simp) hk)
    have hl : (addI st p).1.length = b + 1 := by rw [h2]; simp [hb]
    obtain ⟨g1, g2, g3, g4⟩ := StI.addAll ps (addI st p) (b + 1) hl h1 (fun q hq => hp q (by simp [hq])) (fun i hi hk => by
      have := hH (i + 1) (by simpa using hi) (by simpa using hk)
      rw [show b + 1 + i = b + (i + 1) from by omega]
      exact this)
    rw [List.foldl_cons]
    refine ⟨g1, by rw [g2]; simp; omega, fun q hq => ?_, fun i hi => ?_⟩
    · rw [g3 q (by omega), h2, List.getElem?_append_left (by omega)]
    · cases i with
      | zero =>
        refine ⟨s, ?_, h3, h4⟩
        rw [Nat.add_zero, g3 b (by omega), h2, List.getElem?_append_right (by omega), hb]
        simp
      | succ i =>
        obtain ⟨u, a1, a2, a3⟩ := g4 i (by simpa using hi)
        rw [show b + (i + 1) = b + 1 + i from by omega]
        exact ⟨u, a1, a2, by simpa using a3⟩
theorem setN_get {cs : List Cell} {q : Nat} (hq : q < cs.length) (n : Int) (p : Nat) : (setN cs q n)[p]? = if q = p then some ⟨cs[q].kind, cs[q].name, n⟩ else cs[p]? := by
  unfold Pl.setN
  rw [List.getElem?_set]
  by_cases h : q = p
  · subst h
    simp [hq]
  · rw [if_neg h, if_neg h]
/-- A Ptr is told where it leads. -/
theorem StI.set {cs0 : List Cell} {H : Nat → Prop} {st : Stt} (h : StI cs0 H st) {q : Nat} (h0 : cs0.length ≤ q) {s : Cell} (hq : st.1[q]? = some s) (hk : s = ⟨3, ByteArray.empty, 0⟩) {n : Nat} (h1 : q < n) (h2 : n < st.1.length) (h4 : kindAt st.1 (n : Int) = 4) : StI cs0 (fun p => H p ∧ p ≠ q) (setN st.1 q n, st.2) := by
  obtain ⟨hql, hqs⟩ := List.getElem?_eq_some_iff.1 hq
  have hkind : st.1[q].kind = 3 := by rw [hqs, hk]
  have hK := Keep.setN cs0 st.1 hql hkind (n : Int)
  refine ⟨Nat.le_trans h.len hK.len, fun p hp => ?_, fun x hx => (h.atp x hx).imp id (Or.imp id (hK.free x)), fun p u hp hu hH => ?_⟩
  · rw [setN_get hql, if_neg (by omega)]
    exact h.pre p hp
  · rw [setN_get hql] at hu
    by_cases hpq : q = p
    · rw [if_pos hpq] at hu
      have hu' : (⟨st.1[q].kind, st.1[q].name, (n : Int)⟩ : Cell) = u := by simpa using hu
      subst hu'
      rw [hqs, hk]
      refine .inr (.inr (.inl ⟨rfl, empty_toList, by simp only; omega, by simp only [setN_len]; omega, ?_⟩))
      show kindAt (setN st.1 q n) (n : Int) = 4
      rw [hK.kind n h2]
      exact h4
    · rw [if_neg hpq] at hu
      exact hK.ok (h.new p u hp hu (fun hh => hH ⟨hh, fun e => hpq e.symm⟩))
theorem StI.fun_ {cs0 : List Cell} : ∀ (k : Nat) (t : List Cell) (st : Stt) (H : Nat → Prop), isT t → (headC t).kind = 3 → t.length ≤ k → st.2.length ≤ 1000 → StI cs0 H st → (∀ p, H p → p < st.1.length) →
    StI cs0 H (funI k t st) ∧ kindAt (funI k t st).1 (st.1.length : Int) = 4 ∧ ∀ p, p < st.1.length → (funI k t st).1[p]? = st.1[p]?
  | 0, t, _, _, ht, _, hk, _, _, _ => by
    have := ht.pos
    omega
  | k + 1, t, st, H, ht, h3, hk, ha, h, hH => by
    obtain ⟨p1, p2, p3⟩ := partsI_ok ht h3
    have hcb := ht.cellB _ ht.head
    have hcb' : nameB (headC t).name = true ∧ 0 ≤ (headC t).n ∧ (headC t).n ≤ 6 := by
      unfold cellB at hcb
      rw [if_neg (by omega), if_neg (by omega), if_pos h3] at hcb
      simp only [Bool.and_eq_true, decide_eq_true_eq] at hcb
      exact ⟨hcb.1.1, hcb.1.2, hcb.2⟩
    have hlen := h.len
    -- the Top
    let H0 : Nat → Prop := fun p => H p ∨ st.1.length ≤ p
    have hA0 : StI cs0 H0 (st.1 ++ [⟨4, (headC t).name, (headC t).n⟩], st.2) :=
      (h.hole (H' := H0) (fun p hp _ _ => .inl fun hh => hp (.inl hh))).app (fun x hx => (h.atp x hx).imp id (Or.imp id ((Keep.app _ _ _).free x))) (.inl (.inr (Nat.le_refl _)))
    obtain ⟨hA, hAl, hAp, hAa⟩ := StI.addAll (cs0 := cs0) (H := H0) (partsI t) (st.1 ++ [⟨4, (headC t).name, (headC t).n⟩], st.2) (st.1.length + 1) (by simp) hA0 (fun p hp => (p2 p hp).1.cellB _ (p2 p hp).1.head) (fun i hi _ => .inr (by omega))
    have hTop : topI t st = (partsI t).foldl addI (st.1 ++ [⟨4, (headC t).name, (headC t).n⟩], st.2) := rfl
    rw [← hTop] at hA hAl hAp hAa
    have hTp : (topI t st).1[st.1.length]? = some ⟨4, (headC t).name, (headC t).n⟩ := by
      rw [hAp _ (by omega)]
      simp
    have hTold : ∀ p, p < st.1.length → (topI t st).1[p]? = st.1[p]? := fun p hp => by
      rw [hAp _ (by omega), List.getElem?_append_left hp]
    -- holes: those of the old ones, and Ptrs that lead nowhere yet
    let HF : Nat → Nat → Prop := fun i p => H p ∨ ∃ j, i ≤ j ∧ p = st.1.length + 1 + j ∧ ∃ hj : j < (partsI t).length, (headC (partsI t)[j]).kind = 3
    have hB : StI cs0 (HF 0) (topI t st) := by
      refine (hA.hole (H' := HF 0) fun p hp hp0 hpl => ?_)
      by_cases hps : p < st.1.length
      · exact .inl fun hh => by
          rcases hh with hh | hh
          · exact hp (.inl hh)
          · omega
      · right
        intro s hs
        by_cases hpe : p = st.1.length
        · subst hpe
          rw [hTp] at hs
          have hs' : (⟨4, (headC t).name, (headC t).n⟩ : Cell) = s := by simpa using hs
          subst hs'
          refine .inr (.inr (.inr ⟨rfl, hcb'.2.1, hcb'.2.2, ?_, hcb'.1, fun i hi hn => ?_⟩))
          · simp only
            rw [hAl]
            omega
          · simp only at hn
            obtain ⟨u, a1, a2, _⟩ := hAa (i - 1) (by omega)
            rw [show st.1.length + 1 + (i - 1) = ((st.1.length : Int) + (i : Nat)).toNat from by omega] at a1
            rw [kindAt_some a1]
            exact a2
        · obtain ⟨u, a1, a2, a3⟩ := hAa (p - (st.1.length + 1)) (by omega)
          rw [show st.1.length + 1 + (p - (st.1.length + 1)) = p from by omega] at a1
          -- the slot of a part that is no Fun
          have hnf : ¬ (headC ((partsI t)[p - (st.1.length + 1)]'(by omega))).kind = 3 := fun hh => hp (.inr ⟨p - (st.1.length + 1), Nat.zero_le _, by omega, by omega, hh⟩)
          -- it was laid without a hole
          have := StI.addAll (cs0 := cs0) (H := fun q => H q ∨ q = st.1.length ∨ ∃ j, q = st.1.length + 1 + j ∧ ∃ hj : j < (partsI t).length, (headC (partsI t)[j]).kind = 3) (partsI t) (st.1 ++ [⟨4, (headC t).name, (headC t).n⟩], st.2) (st.1.length + 1) (by simp)
            ((h.hole (fun q hq _ _ => .inl fun hh => hq (.inl hh))).app (fun x hx => (h.atp x hx).imp id (Or.imp id ((Keep.app _ _ _).free x))) (.inl (.inr (.inl rfl)))) (fun q hq => (p2 q hq).1.cellB _ (p2 q hq).1.head) (fun i hi hk => .inr (.inr ⟨i, rfl, hi, hk⟩))
          refine this.1.new p s hp0 hs fun hh => ?_
          rcases hh with hh | hh | ⟨j, hj, hjl, hjk⟩
          · have := hH p hh
            omega
          · exact hpe hh
          · exact hp (.inr ⟨j, Nat.zero_le _, hj, hjl, hjk⟩)
    have hfill : ∀ i, i ≤ (partsI t).length → StI cs0 (HF i) (fillN (funI k) st.1.length (partsI t) i (topI t st)) ∧ (∀ p, p ≤ st.1.length → (fillN (funI k) st.1.length (partsI t) i (topI t st)).1[p]? = (topI t st).1[p]?) ∧
        (∀ j, i ≤ j → j < (partsI t).length → (fillN (funI k) st.1.length (partsI t) i (topI t st)).1[st.1.length + 1 + j]? = (topI t st).1[st.1.length + 1 + j]?) := by
      intro i
      induction i with
      | zero => exact fun _ => ⟨hB, fun _ _ => rfl, fun _ _ _ => rfl⟩
      | succ i ih =>
        intro hi
        obtain ⟨g1, g2, g3⟩ := ih (by omega)
        have hfl := fillN_fun_len ht h3 hk ha (i := i) (by omega)
        have hil : i < (partsI t).length := by omega
        have hpo := (p2 _ (List.getElem_mem hil)).1
        have hlm := lenS_mem hil
        rw [fillN]
        generalize fillN (funI k) st.1.length (partsI t) i (topI t st) = X at g1 g2 g3 hfl
        unfold fillS
        rw [getD_at hil]
        by_cases hk3 : (headC (partsI t)[i]).kind = 3
        · rw [if_pos hk3]
          obtain ⟨f1, f2, f3⟩ := StI.fun_ k (partsI t)[i] X (HF i) hpo hk3 (by omega) hfl.2.2 g1 (fun p hp => by
            rcases hp with hp | ⟨j, _, hj, hjl, _⟩
            · have := hH p hp
              omega
            · omega)
          have hsl := funI_len k (partsI t)[i] X hpo hk3 (by omega) hfl.2.2
          generalize funI k (partsI t)[i] X = Y at f1 f2 f3 hsl
          obtain ⟨u, a1, a2, a3⟩ := hAa i hil
          have hYq : Y.1[st.1.length + 1 + i]? = some u := by rw [f3 _ (by omega), g3 i (Nat.le_refl _) hil]; exact a1
          have hs := f1.set (q := st.1.length + 1 + i) (by omega) hYq (a3 hk3) (n := X.1.length) (by omega) (by omega) f2
          have hYl : st.1.length + 1 + i < Y.1.length := by omega
          refine ⟨hs.hole fun p hp _ _ => .inl fun hh => ?_, fun p hp => ?_, fun j hj hjl => ?_⟩
          · rcases hh.1 with h5 | ⟨j, h5, h6, h7⟩
            · exact hp (.inl h5)
            · refine hp (.inr ⟨j, ?_, h6, h7⟩)
              have := hh.2
              omega
          · simp only
            rw [setN_get hYl, if_neg (by omega), f3 p (by omega), g2 p hp]
          · simp only
            rw [setN_get hYl, if_neg (by omega), f3 _ (by omega), g3 j (by omega) hjl]
        · rw [if_neg hk3]
          refine ⟨g1.hole fun p hp _ _ => .inl fun hh => ?_, g2, fun j hj hjl => g3 j (by omega) hjl⟩
          rcases hh with h5 | ⟨j, h5, h6, h7, h8⟩
          · exact hp (.inl h5)
          · refine hp (.inr ⟨j, ?_, h6, h7, h8⟩)
            rcases Nat.lt_or_ge i j with hlt | hge
            · exact hlt
            · have : j = i := by omega
              subst this
              exact absurd h8 hk3
    obtain ⟨g1, g2, g3⟩ := hfill (partsI t).length (Nat.le_refl _)
    rw [funI]
    refine ⟨g1.hole fun p hp _ _ => .inl fun hh => ?_, ?_, fun p hp => ?_⟩
    · rcases hh with h5 | ⟨j, h5, _, h7, _⟩
      · exact hp h5
      · omega
    · have h9 : (fillN (funI k) st.1.length (partsI t) (partsI t).length (topI t st)).1[((st.1.length : Nat) : Int).toNat]? = some ⟨4, (headC t).name, (headC t).n⟩ := by
        rw [show ((st.1.length : Nat) : Int).toNat = st.1.length from rfl, g2 _ (Nat.le_refl _)]
        exact hTp
      rw [kindAt_some h9]
    · rw [g2 p (by omega)]
      exact hTold p hp
end Go.Proofs.Ytnmkffkalnkbbaa.Pl
