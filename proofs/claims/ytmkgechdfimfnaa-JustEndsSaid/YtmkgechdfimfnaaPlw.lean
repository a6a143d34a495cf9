/-
  Plain laws: what the statements of layer 17 say of what follows, of the model and of unfounded sets.
  No condition but the premises of each theorem.
-/
import Derived.Test.YtmkgechdfimfnaaPlm
namespace Go.Proofs.Ytmkgechdfimfnaa.Pl
section
variable {n : Nat} {rs : List Rule}
def closedB (rs : List Rule) (so x : List Bool) : Bool := rs.all fun r => !(!anyB so r.neg && allB x r.pos && !allB x [r.head])
def belowB (a b : List Bool) : Bool := (List.range a.length).all fun (i : Nat) => !(atB a (i : Int) && !atB b (i : Int))
theorem belowB_iff {a b : List Bool} : belowB a b = true ↔ SubB a b := by
  simp only [belowB, List.all_eq_true, List.mem_range, Bool.not_eq_true', Bool.and_eq_false_iff, Bool.not_eq_false']
  constructor
  · intro h i hi
    rcases h i (atB_lt hi) with h1 | h1
    · rw [hi] at h1; cases h1
    · exact h1
  · intro h i _
    cases hb : atB a (i : Int) with
    | false => exact .inl rfl
    | true => exact .inr (h i hb)
theorem all1 (x : List Bool) (a : Int) : allB x [a] = atB x a := by simp [allB]
theorem gam_closed (h : PrOk n rs) (so : List Bool) : closedB rs so (gam n rs so) = true := by
  simp only [closedB, List.all_eq_true]
  intro r hr
  cases h1 : anyB so r.neg with
  | true => rfl
  | false =>
    cases h2 : allB (gam n rs so) r.pos with
    | false => rfl
    | true =>
      have := (gam_is h so).closed r (List.mem_filter.2 ⟨hr, by simp [h1]⟩) h2
      rw [all1, this]
      rfl
theorem gam_below (h : PrOk n rs) {so x : List Bool} (hc : closedB rs so x = true) : belowB (gam n rs so) x = true := by
  rw [belowB_iff]
  intro i hi
  have hlt := atB_lt hi
  rw [gam_len] at hlt
  have hd := ((gam_is h so).iff (h.filter _) hlt).1 hi
  simp only [closedB, List.all_eq_true] at hc
  exact (hd (fun y => 0 ≤ y ∧ atB x y = true) (fun r hr hp => by
    obtain ⟨hr1, hr2⟩ := List.mem_filter.1 hr
    have h1 := hc r hr1
    have h2 : anyB so r.neg = false := by simpa using hr2
    have h3 : allB x r.pos = true := allB_iff.2 fun p hpp => (hp p hpp).2
    rw [h2, h3, all1] at h1
    exact ⟨((h.rule r hr1).1.1.1), by simpa using h1⟩)).2
theorem gam_anti' (h : PrOk n rs) {so so' : List Bool} (hs : ∀ i : Nat, i < n → atB so i = true → atB so' i = true) : SubB (gam n rs so') (gam n rs so) := fun i hi => by
  have hlt := atB_lt hi
  rw [gam_len] at hlt
  rw [(gam_is h so).iff (h.filter _) hlt]
  refine Der.mono (fun r hr => ?_) (((gam_is h so').iff (h.filter _) hlt).1 hi)
  obtain ⟨h1, h2⟩ := List.mem_filter.1 hr
  refine List.mem_filter.2 ⟨h1, ?_⟩
  have h3 : anyB so' r.neg = false := by simpa using h2
  have h4 : anyB so r.neg = false := by
    rw [Bool.eq_false_iff] at *
    intro ha
    obtain ⟨p, hp, hat⟩ := anyB_iff.1 ha
    have h0 := (h.rule r h1).1.2.2 p hp
    exact h3 (anyB_iff.2 ⟨p, hp, hs p.toNat (by omega) hat⟩)
  simp [h4]
def bothB (n : Nat) (so more : List Bool) : List Bool := (List.range n).map fun (i : Nat) => atB so (i : Int) || atB more (i : Int)
theorem bothB_len (so more : List Bool) : (bothB n so more).length = n := by simp [bothB]
theorem bothB_at {so more : List Bool} {i : Nat} (h : i < n) : atB (bothB n so more) (i : Int) = (atB so (i : Int) || atB more (i : Int)) := by
  simp only [atB_nat]
  simp [bothB, h, atB_nat]
theorem bothB_get {so more : List Bool} {i : Nat} (h : i < n) : (bothB n so more)[i]? = some (atB so (i : Int) || atB more (i : Int)) := by simp [bothB, h]
theorem less1 (h : PrOk n rs) (so more : List Bool) : belowB (gam n rs (bothB n so more)) (gam n rs so) = true := belowB_iff.2 (gam_anti' h fun i hi ha => by rw [bothB_at hi, ha]; rfl)
theorem less2 (h : PrOk n rs) (so more : List Bool) : belowB (gam n rs (bothB n so more)) (gam n rs more) = true := belowB_iff.2 (gam_anti' h fun i hi ha => by rw [bothB_at hi, ha, Bool.or_true])
/-! ### The model's sides -/
def hiB (m : List Int) (n : Nat) : List Bool := (setB m n 0).map (!·)
theorem alt_in (h : PrOk n rs) : ∀ k, SubB (altB n rs k) (gam n rs (altB n rs k))
  | 0 => gam_anti h (SubB.full (gam_len _ _ _))
  | k + 1 => gam_anti h (gam_anti h (alt_in h k))
theorem low_high (h : PrOk n rs) : SubB (lowB n rs) (gam n rs (lowB n rs)) := alt_in h n
theorem setB_at {m : List Int} {i : Nat} {w : Int} (h : i < n) : atB (setB m n w) (i : Int) = isB m i w := by
  simp only [atB_nat]
  simp [setB, h]
theorem isB_nat (m : List Int) (i : Nat) (w : Int) : isB m (i : Int) w = decide (m[i]? = some w) := rfl
theorem model_get {i : Nat} (h : i < n) : (modelI n rs)[i]? = some (if atB (lowB n rs) (i : Int) = true then 2 else if atB (gam n rs (lowB n rs)) (i : Int) = true then 1 else 0) := by
  rw [List.getElem?_eq_getElem (by rw [modelI_len]; exact h), modelI_get]
theorem side_low : setB (modelI n rs) n 2 = lowB n rs := by
  refine ext_at (by rw [setB_length, lowB, altB_len]) fun a ha => ?_
  rw [setB_length] at ha
  rw [setB_at ha, isB_nat, model_get ha]
  cases h1 : atB (lowB n rs) (a : Int) with
  | true => simp
  | false => cases h2 : atB (gam n rs (lowB n rs)) (a : Int) <;> simp
theorem side_high (h : PrOk n rs) : hiB (modelI n rs) n = gam n rs (lowB n rs) := by
  refine ext_at (by simp [hiB, setB_length, gam_len]) fun a ha => ?_
  have hn : a < n := by simpa [hiB, setB_length] using ha
  rw [hiB, notB_at (by rw [setB_length]; exact hn), setB_at hn, isB_nat, model_get hn]
  cases h1 : atB (lowB n rs) (a : Int) with
  | true => rw [low_high h a h1]; simp
  | false => cases h2 : atB (gam n rs (lowB n rs)) (a : Int) <;> simp
theorem sides1 (h : PrOk n rs) : gam n rs (hiB (modelI n rs) n) = setB (modelI n rs) n 2 := by rw [side_high h, side_low, lowB_fix h]
theorem sides2 (h : PrOk n rs) : gam n rs (setB (modelI n rs) n 2) = hiB (modelI n rs) n := by rw [side_high h, side_low]
/-! ### Sets that follow of one another -/
theorem alt_stable (h : PrOk n rs) {x y : List Bool} (hx : gam n rs y = x) (hy : gam n rs x = y) : ∀ k, SubB (altB n rs k) x ∧ SubB (altB n rs k) y
  | 0 => by
    constructor
    · rw [← hx]; exact gam_anti h (SubB.full (by rw [← hy, gam_len]))
    · rw [← hy]; exact gam_anti h (SubB.full (by rw [← hx, gam_len]))
  | k + 1 => by
    obtain ⟨h1, h2⟩ := alt_stable h hx hy k
    constructor
    · have : SubB (altB n rs (k + 1)) (gam n rs y) := gam_anti h (by rw [← hy]; exact gam_anti h h1)
      rwa [hx] at this
    · have : SubB (altB n rs (k + 1)) (gam n rs x) := gam_anti h (by rw [← hx]; exact gam_anti h h2)
      rwa [hy] at this
theorem stable (h : PrOk n rs) {x : List Bool} (hx : gam n rs (gam n rs x) = x) : belowB (setB (modelI n rs) n 2) x = true ∧ belowB x (hiB (modelI n rs) n) = true ∧ belowB (setB (modelI n rs) n 2) (gam n rs x) = true ∧ belowB (gam n rs x) (hiB (modelI n rs) n) = true := by
  obtain ⟨h1, h2⟩ := alt_stable h hx rfl n
  rw [side_high h, side_low]
  refine ⟨belowB_iff.2 h1, belowB_iff.2 ?_, belowB_iff.2 h2, belowB_iff.2 (gam_anti h h1)⟩
  have := gam_anti h h2
  rw [hx] at this
  exact this
end
end Go.Proofs.Ytmkgechdfimfnaa.Pl
