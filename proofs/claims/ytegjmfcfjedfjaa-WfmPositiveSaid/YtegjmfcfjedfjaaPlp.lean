/-
  Plain laws: programs whose Neg is no Head have nothing undefined.
  No condition but the premises of each theorem.
-/
import Derived.Test.YtegjmfcfjedfjaaPlr
namespace Go.Proofs.Ytegjmfcfjedfjaa.Pl
section
variable {n : Nat} {rs : List Rule}
def headsB (n : Nat) (rs : List Rule) : List Bool := rs.foldl (fun l r => l.set r.head.toNat true) (List.replicate n false)
theorem headsB_snoc (l : List Rule) (r : Rule) : headsB n (l ++ [r]) = (headsB n l).set r.head.toNat true := by
  unfold headsB
  rw [List.foldl_append]
  rfl
theorem headsB_take {k : Nat} (h : k < rs.length) : headsB n (rs.take (k + 1)) = (headsB n (rs.take k)).set rs[k].head.toNat true := by
  rw [List.take_succ_eq_append_getElem h, headsB_snoc]
theorem headsB_len (n : Nat) : ∀ l : List Rule, (headsB n l).length = n := fun l => by
  have : ∀ (l : List Rule) (x : List Bool), (l.foldl (fun l r => l.set r.head.toNat true) x).length = x.length := fun l => by
    induction l with
    | nil => intro x; rfl
    | cons r l ih => intro x; rw [List.foldl_cons, ih]; simp
  unfold headsB
  rw [this]
  simp
/-- A set that stays within a list of heads, once there. -/
theorem headsB_at (h0 : ∀ r ∈ rs, 0 ≤ r.head ∧ r.head < n) {r : Rule} (hr : r ∈ rs) : atB (headsB n rs) r.head = true := by
  have key : ∀ (l : List Rule) (x : List Bool), (∀ r ∈ l, 0 ≤ r.head ∧ r.head < x.length) → ∀ (y : Int), 0 ≤ y → (atB x y = true ∨ ∃ r ∈ l, r.head = y) → atB (l.foldl (fun l r => l.set r.head.toNat true) x) y = true := by
    intro l
    induction l with
    | nil => intro x _ y _ h; rcases h with h | ⟨r, h, _⟩; exact h; cases h
    | cons r l ih =>
      intro x hx y hy h
      have hr := hx r (by simp)
      have hs := atB_set (l := x) (i := r.head.toNat) (b := true) (by omega) y.toNat
      rw [Int.toNat_of_nonneg hy] at hs
      rw [List.foldl_cons]
      refine ih _ (fun r' h' => by simpa using hx r' (by simp [h'])) y hy ?_
      rcases h with h | ⟨r', h', e⟩
      · left; rw [hs, h]; simp
      · rcases List.mem_cons.1 h' with rfl | h'
        · left; rw [hs, e]; simp
        · exact .inr ⟨r', h', e⟩
  exact key rs _ (by simpa using h0) r.head (h0 r hr).1 (.inr ⟨r, hr, rfl⟩)
def keepB (keep : Bool) (heads : List Bool) (r : Rule) : Bool := decide (r.neg.length = 0) || (keep && !anyB heads r.neg)
theorem pos_okP (h : PrOk n rs) (p : Rule → Bool) : PrOk n (rs.filter p) :=
  ⟨h.n_le, Nat.le_trans (List.length_filter_le _ _) h.m_le, fun r hr => h.rule r (List.mem_filter.1 hr).1⟩
/-- Sets within the heads let all rules through. -/
theorem pos_gam (keep : Bool) {x : List Bool} (hx : SubB x (headsB n rs)) : gam n (rs.filter (keepB keep (headsB n rs))) x = leastB n (rs.filter (keepB keep (headsB n rs))) := by
  unfold gam
  congr 1
  refine List.filter_eq_self.2 fun r hr => ?_
  have h1 := (List.mem_filter.1 hr).2
  simp only [keepB, Bool.or_eq_true, decide_eq_true_eq, Bool.and_eq_true, Bool.not_eq_true'] at h1
  rcases h1 with h1 | h1
  · have : r.neg = [] := List.eq_nil_of_length_eq_zero h1
    rw [this]
    rfl
  · rw [hx.any h1.2]
    rfl
theorem pos_heads (h : PrOk n rs) (keep : Bool) (x : List Bool) : SubB (gam n (rs.filter (keepB keep (headsB n rs))) x) (headsB n rs) := fun i hi => by
  have hP := pos_okP h (keepB keep (headsB n rs))
  have hlt := atB_lt hi
  rw [gam_len] at hlt
  obtain ⟨r, hr, he, _⟩ := (gam_rule hP x hlt).1 hi
  rw [← he]
  exact headsB_at (fun r hr => (h.rule r hr).1.1) (List.mem_filter.1 hr).1
theorem pos_low (h : PrOk n rs) (keep : Bool) : lowB n (rs.filter (keepB keep (headsB n rs))) = leastB n (rs.filter (keepB keep (headsB n rs))) := by
  have hP := pos_okP h (keepB keep (headsB n rs))
  rw [← lowB_fix hP]
  exact pos_gam keep (pos_heads h keep _)
theorem pos1 (h : PrOk n rs) (keep : Bool) : setB (modelI n (rs.filter (keepB keep (headsB n rs)))) n 2 = hiB (modelI n (rs.filter (keepB keep (headsB n rs)))) n := by
  have hP := pos_okP h (keepB keep (headsB n rs))
  have hl : SubB (lowB n (rs.filter (keepB keep (headsB n rs)))) (headsB n rs) := by
    rw [← lowB_fix hP]
    exact pos_heads h keep _
  rw [side_low, side_high hP, pos_gam keep hl, pos_low h keep]
theorem pos2 (h : PrOk n rs) (keep : Bool) : setB (modelI n (rs.filter (keepB keep (headsB n rs)))) n 2 = gam n (rs.filter (keepB keep (headsB n rs))) [] := by
  rw [side_low, pos_low h keep, pos_gam keep (fun i hi => by simp [atB_nat] at hi)]
end
end Go.Proofs.Ytegjmfcfjedfjaa.Pl
