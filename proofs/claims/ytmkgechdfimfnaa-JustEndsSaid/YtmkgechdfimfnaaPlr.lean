/-
  Plain laws: each atom is the most of what its rules' bodies are; programs whose Neg is no Head.
  No condition but the premises of each theorem.
-/
import Derived.Test.YtmkgechdfimfnaaPlu
namespace Go.Proofs.Ytmkgechdfimfnaa.Pl
section
variable {n : Nat} {rs : List Rule}
theorem Der.inv {rs : List Rule} {a : Int} (h : Der rs a) : ∃ r ∈ rs, r.head = a ∧ ∀ p ∈ r.pos, Der rs p := by
  have : (Der rs a ∧ ∃ r ∈ rs, r.head = a ∧ ∀ p ∈ r.pos, Der rs p) := h (fun y => Der rs y ∧ ∃ r ∈ rs, r.head = y ∧ ∀ p ∈ r.pos, Der rs p) fun r hr hp =>
    ⟨Der.mk hr fun p hpp => (hp p hpp).1, r, hr, rfl, fun p hpp => (hp p hpp).1⟩
  exact this.2
def minPos (m : List Int) (ns : List Int) (o : Int) : Int := ns.foldl (fun o p => min o (m.getD p.toNat 0)) o
def minNeg (m : List Int) (ns : List Int) (o : Int) : Int := ns.foldl (fun o p => min o (2 - m.getD p.toNat 0)) o
def leastI (r : Rule) (m : List Int) : Int := minNeg m r.neg (minPos m r.pos 2)
theorem minPos_le (m : List Int) : ∀ (ns : List Int) (o b : Int), b ≤ minPos m ns o ↔ b ≤ o ∧ ∀ p ∈ ns, b ≤ m.getD p.toNat 0
  | [], o, b => by simp [minPos]
  | x :: ns, o, b => by
    have := minPos_le m ns (min o (m.getD x.toNat 0)) b
    unfold minPos at *
    rw [List.foldl_cons, this]
    simp only [List.mem_cons, forall_eq_or_imp]
    constructor
    · rintro ⟨h1, h2⟩; exact ⟨by omega, by omega, h2⟩
    · rintro ⟨h1, h2, h3⟩; exact ⟨by omega, h3⟩
theorem minNeg_le (m : List Int) : ∀ (ns : List Int) (o b : Int), b ≤ minNeg m ns o ↔ b ≤ o ∧ ∀ p ∈ ns, b ≤ 2 - m.getD p.toNat 0
  | [], o, b => by simp [minNeg]
  | x :: ns, o, b => by
    have := minNeg_le m ns (min o (2 - m.getD x.toNat 0)) b
    unfold minNeg at *
    rw [List.foldl_cons, this]
    simp only [List.mem_cons, forall_eq_or_imp]
    constructor
    · rintro ⟨h1, h2⟩; exact ⟨by omega, by omega, h2⟩
    · rintro ⟨h1, h2, h3⟩; exact ⟨by omega, h3⟩
theorem leastI_le (m : List Int) (r : Rule) (b : Int) : b ≤ leastI r m ↔ b ≤ 2 ∧ (∀ p ∈ r.pos, b ≤ m.getD p.toNat 0) ∧ ∀ p ∈ r.neg, b ≤ 2 - m.getD p.toNat 0 := by
  rw [leastI, minNeg_le, minPos_le, and_assoc]
def mostI (n : Nat) (m : List Int) (rs : List Rule) : List Int := rs.foldl (fun l r => l.set r.head.toNat (max (l.getD r.head.toNat 0) (leastI r m))) (List.replicate n 0)
theorem mostI_snoc (m : List Int) (l : List Rule) (r : Rule) : mostI n m (l ++ [r]) = (mostI n m l).set r.head.toNat (max ((mostI n m l).getD r.head.toNat 0) (leastI r m)) := by
  unfold mostI
  rw [List.foldl_append]
  rfl
theorem foldl_set_len (f : List Int → Rule → Int) (g : Rule → Nat) : ∀ (l : List Rule) (x : List Int), (l.foldl (fun l r => l.set (g r) (f l r)) x).length = x.length
  | [], _ => rfl
  | r :: l, x => by
    rw [List.foldl_cons, foldl_set_len f g l]
    simp
theorem mostI_len (m : List Int) (l : List Rule) : (mostI n m l).length = n := by
  unfold mostI
  rw [foldl_set_len (fun l r => max (l.getD r.head.toNat 0) (leastI r m)) (fun r => r.head.toNat)]
  simp
theorem mostI_take (m : List Int) {k : Nat} (h : k < rs.length) : mostI n m (rs.take (k + 1)) = (mostI n m (rs.take k)).set rs[k].head.toNat (max ((mostI n m (rs.take k)).getD rs[k].head.toNat 0) (leastI rs[k] m)) := by
  rw [List.take_succ_eq_append_getElem h, mostI_snoc]
/-- What the most is at least. -/
theorem mostI_ge (m : List Int) (b : Int) (hb : 0 < b) {a : Nat} (ha : a < n) (k : Nat) (hk : k ≤ rs.length) (h0 : ∀ r ∈ rs, 0 ≤ r.head ∧ r.head < n) :
    b ≤ (mostI n m (rs.take k)).getD a 0 ↔ ∃ r ∈ rs.take k, r.head = a ∧ b ≤ leastI r m := by
  induction k with
  | zero =>
    simp [mostI, ha]
    omega
  | succ k ih =>
    have hlt : k < rs.length := by omega
    have ih := ih (by omega)
    have hr := h0 _ (List.getElem_mem hlt)
    have hll : rs[k].head.toNat < (mostI n m (rs.take k)).length := by rw [mostI_len]; omega
    rw [mostI_take m hlt, List.take_succ_eq_append_getElem hlt]
    simp only [List.mem_append, List.mem_singleton, or_and_right, exists_or, exists_eq_left]
    by_cases hah : rs[k].head.toNat = a
    · subst hah
      simp only [List.getD_eq_getElem?_getD] at *
      rw [List.getElem?_set_self hll, Option.getD_some]
      have e1 : ((rs[k].head.toNat : Nat) : Int) = rs[k].head := Int.toNat_of_nonneg hr.1
      constructor
      · intro h
        by_cases hl : b ≤ leastI rs[k] m
        · exact .inr ⟨e1.symm, hl⟩
        · refine .inl (ih.1 ?_)
          clear ih
          omega
      · rintro (h | h)
        · exact Int.le_trans (ih.2 h) (Int.le_max_left _ _)
        · exact Int.le_trans h.2 (Int.le_max_right _ _)
    · simp only [List.getD_eq_getElem?_getD] at *
      rw [List.getElem?_set_ne hah, ih]
      constructor
      · exact .inl
      · rintro (h | ⟨h, _⟩)
        · exact h
        · omega
theorem model_at {a : Nat} (ha : a < n) : (modelI n rs).getD a 0 = if atB (lowB n rs) (a : Int) = true then 2 else if atB (gam n rs (lowB n rs)) (a : Int) = true then 1 else 0 := by
  rw [List.getD_eq_getElem?_getD, model_get ha]
  rfl
theorem model_two {p : Int} (hp : 0 ≤ p ∧ p < n) : 2 ≤ (modelI n rs).getD p.toNat 0 ↔ atB (lowB n rs) p = true := by
  have h1 := model_at (n := n) (rs := rs) (a := p.toNat) (by omega)
  rw [Int.toNat_of_nonneg hp.1] at h1
  rw [h1]
  split <;> rename_i hh
  · simp [hh]
  · split <;> simp [hh]
theorem model_one (h : PrOk n rs) {p : Int} (hp : 0 ≤ p ∧ p < n) : 1 ≤ (modelI n rs).getD p.toNat 0 ↔ atB (gam n rs (lowB n rs)) p = true := by
  have h1 := model_at (n := n) (rs := rs) (a := p.toNat) (by omega)
  rw [Int.toNat_of_nonneg hp.1] at h1
  rw [h1]
  split <;> rename_i hh
  · have := low_high h p.toNat (by rw [Int.toNat_of_nonneg hp.1]; exact hh)
    rw [Int.toNat_of_nonneg hp.1] at this
    simp [this]
  · split <;> rename_i h2 <;> simp [h2]
theorem any_false_iff {l : List Bool} {ns : List Int} : anyB l ns = false ↔ ∀ p ∈ ns, ¬ atB l p = true := by simp [anyB]
/-- What follows has a rule, and what has one follows. -/
theorem gam_rule (h : PrOk n rs) (so : List Bool) {a : Nat} (ha : a < n) : atB (gam n rs so) (a : Int) = true ↔ ∃ r ∈ rs, r.head = a ∧ (∀ p ∈ r.pos, atB (gam n rs so) p = true) ∧ ∀ p ∈ r.neg, ¬ atB so p = true := by
  constructor
  · intro hat
    obtain ⟨r, hr, he, hp⟩ := Der.inv (((gam_is h so).iff (h.filter _) ha).1 hat)
    obtain ⟨hr1, hr2⟩ := List.mem_filter.1 hr
    refine ⟨r, hr1, he, fun p hpp => ?_, any_false_iff.1 (by simpa using hr2)⟩
    have hb := (h.rule r hr1).1.2.1 p hpp
    have := ((gam_is h so).iff (h.filter _) (show p.toNat < n by omega)).2 (by rw [Int.toNat_of_nonneg hb.1]; exact hp p hpp)
    rwa [Int.toNat_of_nonneg hb.1] at this
  · rintro ⟨r, hr, he, hp, hn⟩
    have := (gam_is h so).closed r (List.mem_filter.2 ⟨hr, by rw [any_false_iff.2 hn]; rfl⟩) (allB_iff.2 hp)
    rwa [he] at this
theorem most_model (h : PrOk n rs) : mostI n (modelI n rs) rs = modelI n rs := by
  have hh : ∀ r ∈ rs, 0 ≤ r.head ∧ r.head < n := fun r hr => (h.rule r hr).1.1
  refine List.ext_getElem (by rw [mostI_len, modelI_len]) fun a h1 h2 => ?_
  have ha : a < n := by rw [modelI_len] at h2; exact h2
  have g1 := mostI_ge (rs := rs) (modelI n rs) 1 (by omega) ha rs.length (Nat.le_refl _) hh
  have g2 := mostI_ge (rs := rs) (modelI n rs) 2 (by omega) ha rs.length (Nat.le_refl _) hh
  have g3 := mostI_ge (rs := rs) (modelI n rs) 3 (by omega) ha rs.length (Nat.le_refl _) hh
  rw [List.take_length] at g1 g2 g3
  have f3 : ¬ ∃ r ∈ rs, r.head = a ∧ 3 ≤ leastI r (modelI n rs) := fun ⟨r, _, _, hl⟩ => by
    have := ((leastI_le _ r 3).1 hl).1
    omega
  have f2 : (∃ r ∈ rs, r.head = a ∧ 2 ≤ leastI r (modelI n rs)) ↔ 2 ≤ (modelI n rs).getD a 0 := by
    have hm := model_two (n := n) (rs := rs) (p := (a : Int)) (by omega)
    simp only [Int.toNat_natCast] at hm
    rw [hm, ← lowB_fix h, gam_rule h _ ha, lowB_fix h]
    constructor
    · rintro ⟨r, hr, he, hl⟩
      obtain ⟨_, l1, l2⟩ := (leastI_le _ r 2).1 hl
      refine ⟨r, hr, he, fun p hp => (model_two (n := n) (rs := rs) ((h.rule r hr).1.2.1 p hp)).1 (l1 p hp), fun p hp hat => ?_⟩
      have := (model_one h ((h.rule r hr).1.2.2 p hp)).2 hat
      have := l2 p hp
      omega
    · rintro ⟨r, hr, he, hp, hn⟩
      refine ⟨r, hr, he, (leastI_le _ r 2).2 ⟨by omega, fun p hpp => (model_two (n := n) (rs := rs) ((h.rule r hr).1.2.1 p hpp)).2 (hp p hpp), fun p hpp => ?_⟩⟩
      have : ¬ 1 ≤ (modelI n rs).getD p.toNat 0 := fun hh => hn p hpp ((model_one h ((h.rule r hr).1.2.2 p hpp)).1 hh)
      omega
  have f1 : (∃ r ∈ rs, r.head = a ∧ 1 ≤ leastI r (modelI n rs)) ↔ 1 ≤ (modelI n rs).getD a 0 := by
    have hm := model_one h (p := (a : Int)) (by omega)
    simp only [Int.toNat_natCast] at hm
    rw [hm, gam_rule h _ ha]
    constructor
    · rintro ⟨r, hr, he, hl⟩
      obtain ⟨_, l1, l2⟩ := (leastI_le _ r 1).1 hl
      refine ⟨r, hr, he, fun p hp => (model_one h ((h.rule r hr).1.2.1 p hp)).1 (l1 p hp), fun p hp hat => ?_⟩
      have := (model_two (n := n) (rs := rs) ((h.rule r hr).1.2.2 p hp)).2 hat
      have := l2 p hp
      omega
    · rintro ⟨r, hr, he, hp, hn⟩
      refine ⟨r, hr, he, (leastI_le _ r 1).2 ⟨by omega, fun p hpp => (model_one h ((h.rule r hr).1.2.1 p hpp)).2 (hp p hpp), fun p hpp => ?_⟩⟩
      have : ¬ 2 ≤ (modelI n rs).getD p.toNat 0 := fun hh => hn p hpp ((model_two (n := n) (rs := rs) ((h.rule r hr).1.2.2 p hpp)).1 hh)
      omega
  have e1 : (mostI n (modelI n rs) rs).getD a 0 = (mostI n (modelI n rs) rs)[a] := by simp [h1]
  have e2 : (modelI n rs).getD a 0 = (modelI n rs)[a] := by simp [h2]
  have r2 := modelI_range (List.getElem_mem h2)
  have r0 : ∀ k, k ≤ rs.length → 0 ≤ (mostI n (modelI n rs) (rs.take k)).getD a 0 := by
    intro k
    induction k with
    | zero => intro _; simp [mostI, ha]
    | succ k ih =>
      intro hk
      have hlt : k < rs.length := by omega
      have ih := ih (by omega)
      rw [mostI_take _ hlt]
      simp only [List.getD_eq_getElem?_getD] at *
      by_cases hah : rs[k].head.toNat = a
      · have hll : rs[k].head.toNat < (mostI n (modelI n rs) (rs.take k)).length := by rw [mostI_len, hah]; exact ha
        rw [← hah] at ih ⊢
        rw [List.getElem?_set_self hll, Option.getD_some]
        omega
      · rw [List.getElem?_set_ne hah]
        exact ih
  have r1 := r0 rs.length (Nat.le_refl _)
  rw [List.take_length] at r1
  rw [← e1, ← e2]
  rw [← e2] at r2
  have t1 := g1.trans f1
  have t2 := g2.trans f2
  have t3 : ¬ 3 ≤ (mostI n (modelI n rs) rs).getD a 0 := fun hh => f3 (g3.1 hh)
  clear g1 g2 g3 f1 f2 f3 e1 e2 r0 hh
  by_cases c1 : 1 ≤ (mostI n (modelI n rs) rs).getD a 0
  · have d1 := t1.1 c1
    by_cases c2 : 2 ≤ (mostI n (modelI n rs) rs).getD a 0
    · have d2 := t2.1 c2
      omega
    · have d2 : ¬ 2 ≤ (modelI n rs).getD a 0 := fun hx => c2 (t2.2 hx)
      omega
  · have d1 : ¬ 1 ≤ (modelI n rs).getD a 0 := fun hx => c1 (t1.2 hx)
    omega
end
end Go.Proofs.Ytmkgechdfimfnaa.Pl
