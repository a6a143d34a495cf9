/-
  Plain words: heaps as rows of slots; where slots lead; what is needed; where slots stand behind a collection. No program of Go stands here.
  No condition but the premises of each theorem.
-/
import Derived.Test.YtnmkffkalnkbbaaPlt
namespace Go.Proofs.Ytnmkffkalnkbbaa.Pl
def findP {α : Type} (p : α → Bool) (xs : List α) : Int := match xs.findIdx? p with | some i => (i : Int) | none => -1
theorem findP_at {α : Type} {p : α → Bool} {xs : List α} {k : Nat} (hk : k < xs.length) (h : p xs[k] = true) (hn : ∀ (i : Nat) (hi : i < xs.length), i < k → p xs[i] = false) : findP p xs = k := by
  have : xs.findIdx? p = some k := by
    rw [List.findIdx?_eq_some_iff_getElem]
    exact ⟨hk, h, fun j hj => by rw [hn j (by omega) hj]; decide⟩
  rw [findP, this]
theorem findP_none {α : Type} {p : α → Bool} {xs : List α} {k : Nat} (hk : xs.length ≤ k) (hn : ∀ (i : Nat) (hi : i < xs.length), i < k → p xs[i] = false) : findP p xs = -1 := by
  have : xs.findIdx? p = none := by
    rw [List.findIdx?_eq_none_iff]
    intro x hx
    obtain ⟨i, hi⟩ := List.getElem?_of_mem hx
    obtain ⟨h1, rfl⟩ := List.getElem?_eq_some_iff.1 hi
    exact hn i h1 (by omega)
  rw [findP, this]
theorem findP_any {α : Type} (p : α → Bool) (xs : List α) : decide (0 ≤ findP p xs) = xs.any p := by
  unfold findP
  cases h : xs.findIdx? p with
  | none =>
    rw [List.findIdx?_eq_none_iff] at h
    symm
    simpa using h
  | some i =>
    rw [List.findIdx?_eq_some_iff_getElem] at h
    obtain ⟨h1, h2, _⟩ := h
    have : xs.any p = true := List.any_eq_true.2 ⟨_, List.getElem_mem h1, h2⟩
    rw [this]
    simp
theorem findP_spec {α : Type} {p : α → Bool} {xs : List α} {k : Nat} (h : findP p xs = k) : ∃ hk : k < xs.length, p xs[k] = true ∧ ∀ (i : Nat) (hi : i < xs.length), i < k → p xs[i] = false := by
  unfold findP at h
  cases h' : xs.findIdx? p with
  | none => rw [h'] at h; simp only at h; omega
  | some i =>
    rw [h'] at h
    simp only at h
    have : i = k := by omega
    subst this
    rw [List.findIdx?_eq_some_iff_getElem] at h'
    obtain ⟨h1, h2, h3⟩ := h'
    exact ⟨h1, h2, fun j hj hji => by have := h3 j hji; simpa using this⟩
def valI (m : List Int) (a : Int) : Int := m.getD a.toNat 0
/-- Where a slot leads: a Ref or a Ptr to one place, a Top to those behind it. -/
def leadsG (cs : List Cell) (p : Int) : List Int := match cs[p.toNat]? with
  | some s => if s.kind = 1 ∨ s.kind = 3 then [s.n] else if s.kind = 4 then (List.range s.n.toNat).map fun (i : Nat) => p + 1 + i else []
  | none => []
def leadsI (cs : List Cell) (p : Int) : List Int := match cs[p.toNat]? with
  | some s => if s.kind = 3 ∨ (s.kind = 1 ∧ s.n ≠ p) then [s.n] else if s.kind = 4 then (List.range s.n.toNat).map fun (i : Nat) => p + 1 + i else []
  | none => []
/-- May a slot stand in a place, by its kind and its number? -/
def SlotOk (cs : List Cell) (p : Nat) (s : Cell) : Prop := (s.kind = 1 ∧ 0 ≤ s.n ∧ s.n < cs.length) ∨ s.kind = 2 ∨ (s.kind = 3 ∧ 0 ≤ s.n ∧ s.n < cs.length) ∨ (s.kind = 4 ∧ 0 ≤ s.n ∧ s.n ≤ 6 ∧ (p : Int) + s.n < cs.length)
def ShOk (cs : List Cell) : Prop := ∀ (p : Nat) (h : p < cs.length), SlotOk cs p cs[p]
theorem leadsG_at {cs : List Cell} {p : Nat} (h : p < cs.length) : leadsG cs (p : Int) = if cs[p].kind = 1 ∨ cs[p].kind = 3 then [cs[p].n] else if cs[p].kind = 4 then (List.range cs[p].n.toNat).map fun (i : Nat) => (p : Int) + 1 + i else [] := by
  unfold leadsG
  rw [show ((p : Nat) : Int).toNat = p from rfl, List.getElem?_eq_getElem h]
theorem leadsI_at {cs : List Cell} {p : Nat} (h : p < cs.length) : leadsI cs (p : Int) = if cs[p].kind = 3 ∨ (cs[p].kind = 1 ∧ cs[p].n ≠ p) then [cs[p].n] else if cs[p].kind = 4 then (List.range cs[p].n.toNat).map fun (i : Nat) => (p : Int) + 1 + i else [] := by
  unfold leadsI
  rw [show ((p : Nat) : Int).toNat = p from rfl, List.getElem?_eq_getElem h]
theorem leadsG_I {cs : List Cell} {p : Nat} {q : Int} (h : p < cs.length) (hq : q ∈ leadsG cs (p : Int)) : q ∈ leadsI cs (p : Int) ∨ q = p := by
  rw [leadsG_at h] at hq
  rw [leadsI_at h]
  by_cases h1 : cs[p].kind = 1
  · rw [if_pos (.inl h1)] at hq
    have hq : q = cs[p].n := by simpa using hq
    by_cases h2 : cs[p].n = p
    · exact .inr (hq.trans h2)
    · rw [if_pos (.inr ⟨h1, h2⟩), hq]
      simp
  · by_cases h3 : cs[p].kind = 3
    · rw [if_pos (.inr h3)] at hq
      rw [if_pos (.inl h3)]
      exact .inl hq
    · rw [if_neg (by simp [h1, h3])] at hq
      rw [if_neg (by simp [h1, h3])]
      exact .inl hq
theorem leadsI_G {cs : List Cell} {p : Nat} {q : Int} (h : p < cs.length) (hq : q ∈ leadsI cs (p : Int)) : q ∈ leadsG cs (p : Int) := by
  rw [leadsI_at h] at hq
  rw [leadsG_at h]
  by_cases h3 : cs[p].kind = 3
  · rw [if_pos (.inl h3)] at hq
    rw [if_pos (.inr h3)]
    exact hq
  · by_cases h1 : cs[p].kind = 1
    · by_cases h2 : cs[p].n = p
      · rw [if_neg (by simp [h2, h3]), if_neg (by omega)] at hq
        cases hq
      · rw [if_pos (.inr ⟨h1, h2⟩)] at hq
        rw [if_pos (.inl h1)]
        exact hq
    · rw [if_neg (by simp [h1, h3])] at hq
      rw [if_neg (by simp [h1, h3])]
      exact hq
theorem leads_range {cs : List Cell} (hs : ShOk cs) {p : Nat} (h : p < cs.length) {q : Int} (hq : q ∈ leadsI cs (p : Int)) : 0 ≤ q ∧ q < cs.length := by
  rw [leadsI_at h] at hq
  have h0 := hs p h
  unfold SlotOk at h0
  split at hq
  · have : q = cs[p].n := by simpa using hq
    omega
  · split at hq
    · obtain ⟨i, hi, rfl⟩ := List.mem_map.1 hq
      rw [List.mem_range] at hi
      omega
    · cases hq
def leadR (cs : List Cell) : List Rule := (List.range cs.length).flatMap fun (p : Nat) => (leadsI cs p).map fun q => ⟨q, [(p : Int)], []⟩
def rootR (n : Nat) (roots : List Int) : List Rule := (roots.filter fun r => decide (0 ≤ r) && decide (r < (n : Int))).map fun r => ⟨r, [], []⟩
def needR (cs : List Cell) (roots : List Int) : List Rule := leadR cs ++ rootR cs.length roots
/-- The slots that roots need. -/
def liveB (cs : List Cell) (roots : List Int) : List Bool := leastB cs.length (needR cs roots)
theorem leadR_mem {cs : List Cell} {p : Nat} {q : Int} (h : p < cs.length) (hq : q ∈ leadsI cs p) : (⟨q, [(p : Int)], []⟩ : Rule) ∈ leadR cs :=
  List.mem_flatMap.2 ⟨p, List.mem_range.2 h, List.mem_map.2 ⟨q, hq, rfl⟩⟩
theorem rootR_mem {n : Nat} {roots : List Int} {r : Int} (h : r ∈ roots) (h0 : 0 ≤ r) (h1 : r < n) : (⟨r, [], []⟩ : Rule) ∈ rootR n roots :=
  List.mem_map.2 ⟨r, List.mem_filter.2 ⟨h, by simp [h0, h1]⟩, rfl⟩
theorem needR_ok {cs : List Cell} (hs : ShOk cs) (roots : List Int) : ∀ r ∈ needR cs roots, RuleOk cs.length r := fun r hr => by
  rcases List.mem_append.1 hr with hr | hr
  · obtain ⟨p, hp, hr⟩ := List.mem_flatMap.1 hr
    obtain ⟨q, hq, rfl⟩ := List.mem_map.1 hr
    rw [List.mem_range] at hp
    exact ⟨leads_range hs hp hq, by simp; omega, by simp⟩
  · obtain ⟨q, hq, rfl⟩ := List.mem_map.1 hr
    obtain ⟨_, h2⟩ := List.mem_filter.1 hq
    simp only [Bool.and_eq_true, decide_eq_true_eq] at h2
    exact ⟨h2, by simp, by simp⟩
theorem liveB_len (cs : List Cell) (roots : List Int) : (liveB cs roots).length = cs.length := iterB_len _ _ _
/-- A walk over what is needed: S is marked, todo is still to be looked at, cur is looked at. -/
structure Wk (cs : List Cell) (roots : List Int) (S : List Bool) (todo cur : List Int) : Prop where
  len : S.length = cs.length
  sound : ∀ a : Nat, a < cs.length → atB S a = true → Der (needR cs roots) a
  todo_ : ∀ t ∈ todo, (0 ≤ t ∧ t < cs.length) ∧ atB S t = true
  closed : ∀ p : Nat, p < cs.length → atB S p = true → (p : Int) ∉ todo → (p : Int) ∉ cur → ∀ q ∈ leadsI cs p, atB S q = true
theorem Wk.start (cs : List Cell) (roots : List Int) : Wk cs roots (List.replicate cs.length false) [] [] := by
  have h0 : ∀ a : Nat, ¬ atB (List.replicate cs.length false) a = true := fun a h => by
    have h1 := atB_lt h
    simp at h1
    simp [atB_nat, h1] at h
  exact ⟨by simp, fun a _ h => absurd h (h0 a), by simp, fun p _ h => absurd h (h0 p)⟩
/-- A slot is needed: it is marked, and to be looked at. -/
def needS (n : Nat) (st : List Bool × List Int) (a : Int) : List Bool × List Int := if 0 ≤ a ∧ a < n ∧ atB st.1 a = false then (st.1.set a.toNat true, st.2 ++ [a]) else st
theorem atB_set1 {S : List Bool} {a : Nat} (ha : a < S.length) (x : Nat) : atB (S.set a true) x = (atB S x || decide (x = a)) := by
  rw [atB_nat, atB_nat]
  by_cases h : x = a
  · subst h
    simp [ha]
  · have : ¬ a = x := fun hh => h hh.symm
    simp [h, this]
theorem atB_int {S : List Bool} {a : Int} (h : atB S a = true) (h0 : 0 ≤ a) : ∃ k : Nat, a = k ∧ k < S.length := by
  obtain ⟨k, rfl⟩ := Int.eq_ofNat_of_zero_le h0
  exact ⟨k, rfl, atB_lt h⟩
theorem Wk.need {cs : List Cell} {roots : List Int} {S : List Bool} {todo cur : List Int} (h : Wk cs roots S todo cur) {a : Int} (ha : 0 ≤ a → a < cs.length → Der (needR cs roots) a) : Wk cs roots (needS cs.length (S, todo) a).1 (needS cs.length (S, todo) a).2 cur ∧ (0 ≤ a → a < cs.length → atB (needS cs.length (S, todo) a).1 a = true) ∧ (∀ x : Nat, atB S x = true → atB (needS cs.length (S, todo) a).1 x = true) ∧ 2 * cntB S + (needS cs.length (S, todo) a).2.length ≤ 2 * cntB (needS cs.length (S, todo) a).1 + todo.length := by
  unfold needS
  by_cases h1 : 0 ≤ a ∧ a < cs.length ∧ atB S a = false
  · rw [if_pos h1]
    obtain ⟨k, rfl⟩ := Int.eq_ofNat_of_zero_le h1.1
    have hk : k < cs.length := by omega
    have hkS : k < S.length := by rw [h.len]; exact hk
    have hset := atB_set1 hkS
    simp only [show ((k : Nat) : Int).toNat = k from rfl]
    refine ⟨⟨by rw [List.length_set]; exact h.len, fun x hx hax => ?_, fun t ht => ?_, fun p hp hpS hpt hpc q hq => ?_⟩, fun _ _ => by rw [hset]; simp, fun x hx => by rw [hset, hx]; rfl, ?_⟩
    · rw [hset, Bool.or_eq_true, decide_eq_true_eq] at hax
      rcases hax with hax | rfl
      · exact h.sound x hx hax
      · exact ha (by omega) (by omega)
    · rcases List.mem_append.1 ht with ht | ht
      · have h2 := h.todo_ t ht
        refine ⟨h2.1, ?_⟩
        obtain ⟨y, rfl, _⟩ := atB_int h2.2 h2.1.1
        rw [hset, h2.2]
        rfl
      · have : t = k := by simpa using ht
        subst this
        exact ⟨by omega, by rw [hset]; simp⟩
    · rw [hset, Bool.or_eq_true, decide_eq_true_eq] at hpS
      rcases hpS with hpS | rfl
      · have h2 := h.closed p hp hpS (fun hh => hpt (List.mem_append.2 (.inl hh))) hpc q hq
        by_cases hq0 : 0 ≤ q
        · obtain ⟨y, rfl, _⟩ := atB_int h2 hq0
          rw [hset, h2]
          rfl
        · have h3 : q.toNat = 0 := by omega
          have h4 : atB S q = atB S ((0 : Nat) : Int) := by unfold atB; rw [h3]; rfl
          have h5 : atB (S.set k true) q = atB (S.set k true) ((0 : Nat) : Int) := by unfold atB; rw [h3]; rfl
          rw [h5, hset, ← h4, h2]
          rfl
      · exact absurd (List.mem_append.2 (.inr (by simp))) hpt
    · have h2 : cntB (S.set k true) = cntB S + 1 := by
        unfold cntB
        rw [List.countP_set (h := hkS)]
        have h3 : S[k] = false := by have := h1.2.2; rw [atB_nat] at this; simpa [hkS] using this
        simp [h3]
      rw [h2]
      simp
      omega
  · rw [if_neg h1]
    refine ⟨h, fun h2 h3 => ?_, fun x hx => hx, Nat.le_refl _⟩
    cases hv : atB S a with
    | true => rfl
    | false => exact absurd ⟨h2, h3, hv⟩ h1
theorem Wk.der {cs : List Cell} {roots : List Int} {S : List Bool} {todo cur : List Int} (h : Wk cs roots S todo cur) {p : Nat} (hp : p < cs.length) (hS : atB S p = true) {q : Int} (hq : q ∈ leadsG cs p) : Der (needR cs roots) q := by
  have hd := h.sound p hp hS
  rcases leadsG_I hp hq with h1 | h1
  · exact Der.mk (r := ⟨q, [(p : Int)], []⟩) (List.mem_append.2 (.inl (leadR_mem hp h1))) (fun x hx => by
      have : x = (p : Int) := by simpa using hx
      subst this
      exact hd)
  · rw [h1]; exact hd
/-- At the end: what is marked is what is needed. -/
theorem Wk.done {cs : List Cell} {roots : List Int} {S : List Bool} (hs : ShOk cs) (h : Wk cs roots S [] []) (hr : ∀ r ∈ roots, 0 ≤ r → r < cs.length → atB S r = true) : S = liveB cs roots := by
  refine IsLeast.unique (n := cs.length) (rs := needR cs roots) ⟨h.len, fun r hr' ha => ?_, h.sound⟩ (leastB_is _ _ (needR_ok hs roots)) (needR_ok hs roots)
  rcases List.mem_append.1 hr' with hr' | hr'
  · obtain ⟨p, hp, hr'⟩ := List.mem_flatMap.1 hr'
    obtain ⟨q, hq, rfl⟩ := List.mem_map.1 hr'
    rw [List.mem_range] at hp
    exact h.closed p hp (allB_iff.1 ha _ (by simp)) (by simp) (by simp) q hq
  · obtain ⟨q, hq, rfl⟩ := List.mem_map.1 hr'
    obtain ⟨h1, h2⟩ := List.mem_filter.1 hq
    simp only [Bool.and_eq_true, decide_eq_true_eq] at h2
    exact hr q h1 h2.1 h2.2
/-- A slot that was taken is looked at, once all of where it leads is marked. -/
theorem Wk.next {cs : List Cell} {roots : List Int} {S : List Bool} {todo : List Int} {p : Nat} (h : Wk cs roots S todo [(p : Int)]) (hc : ∀ q ∈ leadsI cs p, atB S q = true) : Wk cs roots S todo [] :=
  ⟨h.len, h.sound, h.todo_, fun x hx hS ht _ q hq => by
    by_cases he : x = p
    · subst he; exact hc q hq
    · exact h.closed x hx hS ht (by simp; omega) q hq⟩
theorem Wk.pop {cs : List Cell} {roots : List Int} {S : List Bool} {todo rest : List Int} {p : Int} (h : Wk cs roots S todo []) (hm : ∀ x, x ∈ todo → x ∈ rest ∨ x = p) (hr : ∀ x ∈ rest, x ∈ todo) : Wk cs roots S rest [p] :=
  ⟨h.len, h.sound, fun t ht => h.todo_ t (hr t ht), fun x hx hS ht hc q hq => h.closed x hx hS (fun hh => (hm _ hh).elim ht (fun he => hc (by simp [he]))) (by simp) q hq⟩
theorem foldl_need {cs : List Cell} {roots cur : List Int} : ∀ (l : List Int) (S : List Bool) (todo : List Int), Wk cs roots S todo cur → (∀ a ∈ l, 0 ≤ a → a < cs.length → Der (needR cs roots) a) → Wk cs roots (l.foldl (needS cs.length) (S, todo)).1 (l.foldl (needS cs.length) (S, todo)).2 cur ∧ (∀ a ∈ l, 0 ≤ a → a < cs.length → atB (l.foldl (needS cs.length) (S, todo)).1 a = true) ∧ (∀ x : Nat, atB S x = true → atB (l.foldl (needS cs.length) (S, todo)).1 x = true) ∧ 2 * cntB S + (l.foldl (needS cs.length) (S, todo)).2.length ≤ 2 * cntB (l.foldl (needS cs.length) (S, todo)).1 + todo.length
  | [], S, todo, h, _ => ⟨h, by simp, fun _ h => h, Nat.le_refl _⟩
  | a :: l, S, todo, h, ha => by
    obtain ⟨h1, h2, h3, h4⟩ := h.need (ha a (by simp))
    obtain ⟨h5, h6, h7, h8⟩ := foldl_need l _ _ h1 (fun b hb => ha b (by simp [hb]))
    rw [List.foldl_cons]
    have h8' : 2 * cntB (needS cs.length (S, todo) a).1 + (l.foldl (needS cs.length) (needS cs.length (S, todo) a)).2.length ≤ 2 * cntB (l.foldl (needS cs.length) (needS cs.length (S, todo) a)).1 + (needS cs.length (S, todo) a).2.length := h8
    refine ⟨h5, fun b hb h0 h9 => ?_, fun x hx => h7 x (h3 x hx), by omega⟩
    rcases List.mem_cons.1 hb with rfl | hb
    · obtain ⟨k, rfl⟩ := Int.eq_ofNat_of_zero_le h0
      exact h7 k (h2 h0 h9)
    · exact h6 b hb h0 h9
theorem needS_len (n : Nat) (st : List Bool × List Int) (a : Int) : (needS n st a).1.length = st.1.length ∧ (needS n st a).2.length ≤ st.2.length + 1 := by
  unfold needS
  split <;> simp
end Go.Proofs.Ytnmkffkalnkbbaa.Pl
