/-
  Plain laws: what follows if some atoms are so; the sets that alternate; the model; what is unfounded in a state.
  No condition but the premises of each theorem.
-/
import Derived.Test.YtnmkffkalnkbbaaPlc
namespace Go.Proofs.Ytnmkffkalnkbbaa.Pl

structure PrOk (n : Nat) (rs : List Rule) : Prop where
  n_le : n ≤ 1000
  m_le : rs.length ≤ 1000
  rule : ∀ r ∈ rs, RuleOk n r ∧ r.pos.length ≤ 1000
theorem PrOk.filter {n : Nat} {rs : List Rule} (h : PrOk n rs) (p : Rule → Bool) : ∀ r ∈ rs.filter p, RuleOk n r := fun r hr => (h.rule r (List.mem_filter.1 hr).1).1

def SubB (a b : List Bool) : Prop := ∀ i : Nat, atB a i = true → atB b i = true
theorem SubB.refl (a : List Bool) : SubB a a := fun _ h => h
theorem SubB.trans {a b c : List Bool} (h : SubB a b) (h' : SubB b c) : SubB a c := fun i hi => h' i (h i hi)
theorem SubB.any {a b : List Bool} (h : SubB a b) {ns : List Int} (hb : anyB b ns = false) : anyB a ns = false := by
  rw [Bool.eq_false_iff] at *
  intro ha
  obtain ⟨p, hp, hat⟩ := anyB_iff.1 ha
  exact hb (anyB_iff.2 ⟨p, hp, h p.toNat hat⟩)
theorem SubB.full {a : List Bool} {n : Nat} (h : a.length = n) : SubB a (List.replicate n true) := fun i hi => by
  have := atB_lt hi
  rw [atB_nat]
  simp [← h, this]

def gam (n : Nat) (rs : List Rule) (so : List Bool) : List Bool := leastB n (rs.filter fun r => !anyB so r.neg)
section
variable {n : Nat} {rs : List Rule}
theorem gam_len (n : Nat) (rs : List Rule) (so : List Bool) : (gam n rs so).length = n := leastB_len _ _
theorem gam_is (h : PrOk n rs) (so : List Bool) : IsLeast n (rs.filter fun r => !anyB so r.neg) (gam n rs so) := leastB_is _ _ (h.filter _)
theorem gam_anti (h : PrOk n rs) {so so' : List Bool} (hs : SubB so so') : SubB (gam n rs so') (gam n rs so) := fun i hi => by
  have hlt := atB_lt hi
  rw [gam_len] at hlt
  rw [(gam_is h so).iff (h.filter _) hlt]
  refine Der.mono (fun r hr => ?_) (((gam_is h so').iff (h.filter _) hlt).1 hi)
  obtain ⟨h1, h2⟩ := List.mem_filter.1 hr
  exact List.mem_filter.2 ⟨h1, by simpa using hs.any (by simpa using h2)⟩

def altB (n : Nat) (rs : List Rule) : Nat → List Bool
  | 0 => gam n rs (List.replicate n true)
  | k + 1 => gam n rs (gam n rs (altB n rs k))
def lowB (n : Nat) (rs : List Rule) : List Bool := altB n rs n
theorem altB_len (n : Nat) (rs : List Rule) (k : Nat) : (altB n rs k).length = n := by cases k <;> exact gam_len _ _ _
theorem altB_grow (h : PrOk n rs) : ∀ k, SubB (altB n rs k) (altB n rs (k + 1))
  | 0 => gam_anti h (SubB.full (gam_len _ _ _))
  | k + 1 => gam_anti h (gam_anti h (altB_grow h k))
theorem altB_lt (h : PrOk n rs) (k : Nat) (hne : altB n rs (k + 1) ≠ altB n rs k) : cntB (altB n rs k) < cntB (altB n rs (k + 1)) :=
  cnt_lt (by rw [altB_len, altB_len]) (altB_grow h k) (Ne.symm hne)
theorem altB_cnt (h : PrOk n rs) : ∀ k, altB n rs (k + 1) = altB n rs k ∨ k < cntB (altB n rs (k + 1))
  | 0 => by
    by_cases he : altB n rs (0 + 1) = altB n rs 0
    · exact .inl he
    · exact .inr (Nat.lt_of_le_of_lt (Nat.zero_le _) (altB_lt h 0 he))
  | k + 1 => by
    by_cases he : altB n rs (k + 1 + 1) = altB n rs (k + 1)
    · exact .inl he
    · rcases altB_cnt h k with hk | hk
      · exact absurd (by show gam n rs (gam n rs (altB n rs (k + 1))) = gam n rs (gam n rs (altB n rs k)); rw [hk]) he
      · have := altB_lt h (k + 1) he
        exact .inr (by omega)
theorem lowB_fix' (h : PrOk n rs) : altB n rs (n + 1) = altB n rs n := by
  rcases altB_cnt h n with h1 | h1
  · exact h1
  · have := cntB_le (altB n rs (n + 1))
    rw [altB_len] at this
    omega
theorem lowB_fix (h : PrOk n rs) : gam n rs (gam n rs (lowB n rs)) = lowB n rs := lowB_fix' h
theorem altB_from {j : Nat} (h : altB n rs (j + 1) = altB n rs j) : ∀ k, j ≤ k → altB n rs k = altB n rs j
  | 0, hk => by rw [show j = 0 from by omega]
  | k + 1, hk => by
    by_cases hj : j = k + 1
    · rw [hj]
    · have ih := altB_from h k (by omega)
      show gam n rs (gam n rs (altB n rs k)) = _
      rw [ih]
      exact h
theorem altB_done (h : PrOk n rs) {k : Nat} (hk : altB n rs (k + 1) = altB n rs k) : altB n rs k = lowB n rs := by
  rcases Nat.le_total k n with hkn | hkn
  · exact (altB_from hk n hkn).symm
  · exact altB_from (lowB_fix' h) k hkn

def modelI (n : Nat) (rs : List Rule) : List Int := (List.range n).map fun (i : Nat) => if atB (lowB n rs) (i : Int) = true then 2 else if atB (gam n rs (lowB n rs)) (i : Int) = true then 1 else 0
theorem modelI_len (n : Nat) (rs : List Rule) : (modelI n rs).length = n := by simp [modelI]
theorem modelI_get (i : Nat) (h : i < (modelI n rs).length) : (modelI n rs)[i] = if atB (lowB n rs) (i : Int) = true then 2 else if atB (gam n rs (lowB n rs)) (i : Int) = true then 1 else 0 := by simp [modelI]
theorem modelI_range {x : Int} (h : x ∈ modelI n rs) : 0 ≤ x ∧ x ≤ 2 := by
  simp only [modelI, List.mem_map] at h
  obtain ⟨i, _, rfl⟩ := h
  split
  · omega
  · split <;> omega
theorem modelI_take (k : Nat) (h : k < n) : (modelI n rs).take (k + 1) = (modelI n rs).take k ++ [if atB (lowB n rs) (k : Int) = true then 2 else if atB (gam n rs (lowB n rs)) (k : Int) = true then 1 else 0] := by
  rw [List.take_succ_eq_append_getElem (by rw [modelI_len]; exact h), modelI_get]
end

/-- The numbers below one of which something is so. -/
def pickI (p : Nat → Bool) (k : Nat) : List Int := ((List.range k).filter p).map fun (i : Nat) => (i : Int)
theorem pickI_t {p : Nat → Bool} {k : Nat} (h : p k = true) : pickI p (k + 1) = pickI p k ++ [(k : Int)] := by simp [pickI, List.range_succ, h]
theorem pickI_f {p : Nat → Bool} {k : Nat} (h : p k = false) : pickI p (k + 1) = pickI p k := by simp [pickI, List.range_succ, h]
theorem pickI_len (p : Nat → Bool) (k : Nat) : (pickI p k).length ≤ k := by
  have := List.length_filter_le p (List.range k)
  simpa [pickI] using this
theorem mem_pickI {p : Nat → Bool} {k : Nat} {x : Int} : x ∈ pickI p k ↔ ∃ i : Nat, i < k ∧ p i = true ∧ x = i := by
  simp only [pickI, List.mem_map, List.mem_filter, List.mem_range]
  constructor
  · rintro ⟨a, ⟨h1, h2⟩, rfl⟩; exact ⟨a, h1, h2, rfl⟩
  · rintro ⟨a, h1, h2, rfl⟩; exact ⟨a, ⟨h1, h2⟩, rfl⟩
theorem pickI_range {p : Nat → Bool} {k : Nat} {x : Int} (h : x ∈ pickI p k) : 0 ≤ x ∧ x < k := by
  obtain ⟨i, h1, _, rfl⟩ := mem_pickI.1 h
  omega
/-- What is founded in a state, and what is not. -/
def foundB (n : Nat) (rs : List Rule) (m : List Int) : List Bool := leastB n (rs.filter fun r => !failsB r m)
def unfI (n : Nat) (rs : List Rule) (m : List Int) : List Int := pickI (fun i => !atB (foundB n rs m) (i : Int)) n
theorem foundB_len (n : Nat) (rs : List Rule) (m : List Int) : (foundB n rs m).length = n := leastB_len _ _

/-! ### Sets that grow, and sets that shrink, round by round -/
/-- What a round keeps: all told follows; and if nothing was told, the first rules are kept to. -/
structure Grow (n : Nat) (rs : List Rule) (p : Rule → Bool) (l0 l : List Bool) (k : Nat) (more : Bool) : Prop where
  len : l.length = n
  sound : ∀ a : Nat, a < n → atB l a = true → Der (rs.filter p) a
  kept : more = false → l = l0 ∧ ∀ r ∈ rs.take k, p r = true → allB l r.pos = true → atB l r.head = true
  told : more = true → cntB l0 < cntB l
theorem Grow.start {n : Nat} {rs : List Rule} {p : Rule → Bool} {l : List Bool} (h1 : l.length = n) (h2 : ∀ a : Nat, a < n → atB l a = true → Der (rs.filter p) a) : Grow n rs p l l 0 false := ⟨h1, h2, fun _ => ⟨rfl, by simp⟩, fun h => by cases h⟩
theorem atB_set {l : List Bool} {i : Nat} {b : Bool} (h : i < l.length) (a : Nat) : atB (l.set i b) a = if a = i then b else atB l a := by
  by_cases hai : a = i
  · subst hai; simp [atB_nat, h]
  · rw [if_neg hai]
    simp [atB_nat, List.getElem?_set_ne (Ne.symm hai)]
theorem cnt_set {l : List Bool} {i : Nat} (h : i < l.length) (hf : atB l i = false) : cntB l < cntB (l.set i true) :=
  cnt_lt (by simp) (fun a ha => by rw [atB_set h]; split <;> simp_all) (fun he => by
    have := atB_set (b := true) h i
    rw [← he, hf] at this
    simp at this)
theorem Grow.set {n : Nat} {rs : List Rule} {p : Rule → Bool} {l0 l : List Bool} {k : Nat} {more : Bool} (h : Grow n rs p l0 l k more) (hr : ∀ r ∈ rs, RuleOk n r) (hk : k < rs.length) (hpk : p rs[k] = true) (hh : atB l rs[k].head = false) (hp : allB l rs[k].pos = true) : Grow n rs p l0 (l.set rs[k].head.toNat true) (k + 1) true := by
  have h0 := (hr _ (List.getElem_mem hk))
  have hlt : rs[k].head.toNat < l.length := by rw [h.len]; have := h0.1; omega
  refine ⟨by rw [List.length_set, h.len], fun a ha hat => ?_, (fun h => by cases h), fun _ => ?_⟩
  · rw [atB_set hlt] at hat
    split at hat
    · rename_i hai
      have hr' : Der (rs.filter p) rs[k].head := Der.mk (List.mem_filter.2 ⟨List.getElem_mem hk, hpk⟩) fun p hpp => by
        have hb := h0.2.1 p hpp
        have := h.sound p.toNat (by omega) (allB_iff.1 hp p hpp)
        rwa [Int.toNat_of_nonneg hb.1] at this
      rw [hai, Int.toNat_of_nonneg h0.1.1]
      exact hr'
    · exact h.sound a ha hat
  · have h1 := cnt_set hlt hh
    cases more with
    | true => exact Nat.lt_trans (h.told rfl) h1
    | false => rw [← (h.kept rfl).1]; exact h1
theorem Grow.skip {n : Nat} {rs : List Rule} {p : Rule → Bool} {l0 l : List Bool} {k : Nat} {more : Bool} (h : Grow n rs p l0 l k more) (hk : k < rs.length) (hs : p rs[k] = true → allB l rs[k].pos = true → atB l rs[k].head = true) : Grow n rs p l0 l (k + 1) more := by
  refine ⟨h.len, h.sound, fun hm => ⟨(h.kept hm).1, fun r hr => ?_⟩, h.told⟩
  rw [List.take_succ_eq_append_getElem hk] at hr
  rcases List.mem_append.1 hr with hr | hr
  · exact (h.kept hm).2 r hr
  · rw [List.mem_singleton] at hr
    subst hr
    exact hs
theorem Grow.least {n : Nat} {rs : List Rule} {p : Rule → Bool} {l0 l : List Bool} {k : Nat} (h : Grow n rs p l0 l k false) (hk : rs.length ≤ k) : IsLeast n (rs.filter p) l :=
  ⟨h.len, fun r hr => by
    have := (h.kept rfl).2
    rw [List.take_of_length_le hk] at this
    exact this r (List.mem_filter.1 hr).1 (List.mem_filter.1 hr).2, h.sound⟩
/-- The measure of the rounds. -/
def measB (n : Nat) (l : List Bool) (more : Bool) : Nat := (n - cntB l) + if more = true then 1 else 0
theorem Grow.meas {n : Nat} {rs : List Rule} {p : Rule → Bool} {l0 l : List Bool} {k : Nat} {more : Bool} (h : Grow n rs p l0 l k more) : measB n l more < measB n l0 true := by
  have h1 := cntB_le l
  rw [h.len] at h1
  cases more with
  | true => have := h.told rfl; simp [measB]; omega
  | false => rw [(h.kept rfl).1]; simp [measB]
theorem notB_at {l : List Bool} {i : Nat} (h : i < l.length) : atB (l.map (!·)) (i : Int) = !atB l (i : Int) := by simp [atB_nat, h]
theorem any_not {l : List Bool} {ns : List Int} (h : ∀ x ∈ ns, 0 ≤ x ∧ x < l.length) : anyB l ns = !allB (l.map (!·)) ns := by
  induction ns with
  | nil => rfl
  | cons x ns ih =>
    have hx := h x (by simp)
    have := ih (fun y hy => h y (by simp [hy]))
    have h2 := notB_at (l := l) (i := x.toNat) (by omega)
    rw [Int.toNat_of_nonneg hx.1] at h2
    simp only [anyB, allB, List.any_cons, List.all_cons] at *
    rw [this, h2]
    simp
theorem not_not_map (l : List Bool) : (l.map (!·)).map (!·) = l := by
  induction l with
  | nil => rfl
  | cons b l ih => simp only [List.map_cons, Bool.not_not, ih]
end Go.Proofs.Ytnmkffkalnkbbaa.Pl
