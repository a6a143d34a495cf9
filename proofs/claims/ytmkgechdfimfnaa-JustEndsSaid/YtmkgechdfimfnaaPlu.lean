/-
  Plain laws: unfounded sets; what atoms are by their rules; programs without Neg.
  No condition but the premises of each theorem.
-/
import Derived.Test.YtmkgechdfimfnaaPlw
namespace Go.Proofs.Ytmkgechdfimfnaa.Pl
section
variable {n : Nat} {rs : List Rule}
/-! ### Unfounded sets -/
def unfoundB (n : Nat) (rs : List Rule) (m : List Int) (x : List Bool) : Bool := rs.all fun r => !(allB x [r.head] && !anyB x r.pos && !anyB (setB m n 0) r.pos && !anyB (setB m n 2) r.neg)
theorem any_set (m : List Int) (w : Int) {ns : List Int} (h : ∀ x ∈ ns, 0 ≤ x ∧ x < n) : anyB (setB m n w) ns = ns.any (isB m · w) := by
  induction ns with
  | nil => rfl
  | cons x ns ih =>
    have hx := h x (by simp)
    have h1 := ih fun y hy => h y (by simp [hy])
    have h2 := setB_at (m := m) (w := w) (show x.toNat < n by omega)
    rw [Int.toNat_of_nonneg hx.1] at h2
    simp only [anyB, List.any_cons] at *
    rw [h1, h2]
theorem fails_set (h : PrOk n rs) (m : List Int) {r : Rule} (hr : r ∈ rs) : failsB r m = (anyB (setB m n 0) r.pos || anyB (setB m n 2) r.neg) := by
  rw [failsB, any_set m 0 (h.rule r hr).1.2.1, any_set m 2 (h.rule r hr).1.2.2]
def unfB (n : Nat) (rs : List Rule) (m : List Int) : List Bool := (foundB n rs m).map (!·)
theorem unfB_len (m : List Int) : (unfB n rs m).length = n := by simp [unfB, foundB_len]
theorem foundB_is (h : PrOk n rs) (m : List Int) : IsLeast n (rs.filter fun r => !failsB r m) (foundB n rs m) := leastB_is _ _ (h.filter _)
theorem unf_is (h : PrOk n rs) (m : List Int) : unfoundB n rs m (unfB n rs m) = true := by
  simp only [unfoundB, List.all_eq_true]
  intro r hr
  have h0 := (h.rule r hr).1
  cases hf : failsB r m with
  | true =>
    rw [fails_set h m hr, Bool.or_eq_true] at hf
    rcases hf with hf | hf <;> simp [hf]
  | false =>
    have hf' := hf
    rw [fails_set h m hr, Bool.or_eq_false_iff] at hf'
    cases hp : anyB (unfB n rs m) r.pos with
    | true => simp
    | false =>
      have h1 := any_not (l := unfB n rs m) (ns := r.pos) (fun y hy => by rw [unfB_len]; exact h0.2.1 y hy)
      rw [hp, unfB, not_not_map] at h1
      have h2 := (foundB_is h m).closed r (List.mem_filter.2 ⟨hr, by simp [hf]⟩) (by simpa using h1.symm)
      have h3 := notB_at (l := foundB n rs m) (i := r.head.toNat) (by rw [foundB_len]; have := h0.1; omega)
      rw [Int.toNat_of_nonneg h0.1.1, h2] at h3
      rw [all1, unfB, h3]
      rfl
theorem unf_most (h : PrOk n rs) {m : List Int} {x : List Bool} (hx : x.length ≤ n) (hu : unfoundB n rs m x = true) : belowB x (unfB n rs m) = true := by
  rw [belowB_iff]
  intro i hi
  have hlt : i < n := Nat.lt_of_lt_of_le (atB_lt hi) hx
  rw [unfB, notB_at (by rw [foundB_len]; exact hlt)]
  cases hf : atB (foundB n rs m) (i : Int) with
  | false => rfl
  | true =>
    exfalso
    have hd := ((foundB_is h m).iff (h.filter _) hlt).1 hf
    simp only [unfoundB, List.all_eq_true] at hu
    have := hd (fun y => atB x y = false) (fun r hr hp => by
      obtain ⟨hr1, hr2⟩ := List.mem_filter.1 hr
      have h1 := hu r hr1
      have h2 : failsB r m = false := by simpa using hr2
      rw [fails_set h m hr1, Bool.or_eq_false_iff] at h2
      have h3 : anyB x r.pos = false := by
        rw [Bool.eq_false_iff]
        intro ha
        obtain ⟨p, hpp, hat⟩ := anyB_iff.1 ha
        rw [hp p hpp] at hat
        cases hat
      rw [h2.1, h2.2, h3, all1] at h1
      simpa using h1)
    rw [hi] at this
    cases this
def markB (n : Nat) (l : List Int) : List Bool := (List.range n).map fun (i : Nat) => decide ((i : Int) ∈ l)
theorem markB_len (l : List Int) : (markB n l).length = n := by simp [markB]
theorem markB_nil : markB n [] = List.replicate n false := by
  refine List.ext_getElem (by simp [markB]) fun i h1 h2 => by simp [markB]
theorem markB_succ {l : List Int} {k : Nat} (hk : k < l.length) (h0 : 0 ≤ l[k]) : markB n (l.take (k + 1)) = (markB n (l.take k)).set l[k].toNat true := by
  refine List.ext_getElem (by simp [markB]) fun i h1 h2 => ?_
  have hi : i < n := by simpa [markB] using h1
  rw [List.getElem_set]
  simp only [markB, List.getElem_map, List.getElem_range]
  rw [List.take_succ_eq_append_getElem hk, Bool.eq_iff_iff, decide_eq_true_eq, List.mem_append, List.mem_singleton]
  split
  · rename_i he
    have : (i : Int) = l[k] := by omega
    exact ⟨fun _ => rfl, fun _ => .inr this⟩
  · rename_i he
    have : ¬ (i : Int) = l[k] := by omega
    rw [decide_eq_true_eq]
    exact ⟨fun hh => hh.elim id fun h2 => absurd h2 this, .inl⟩
theorem markB_unf (m : List Int) : markB n (unfI n rs m) = unfB n rs m := by
  refine List.ext_getElem (by rw [markB_len, unfB_len]) fun i h1 h2 => ?_
  have hi : i < n := by rw [markB_len] at h1; exact h1
  have hf : i < (foundB n rs m).length := by rw [foundB_len]; exact hi
  simp only [markB, List.getElem_map, List.getElem_range, unfB]
  rw [show (!(foundB n rs m)[i]) = !atB (foundB n rs m) (i : Int) from by rw [atB_nat]; simp [hf]]
  rw [Bool.eq_iff_iff, decide_eq_true_eq, unfI, mem_pickI]
  constructor
  · rintro ⟨j, _, hj, he⟩
    have : i = j := by omega
    subst this
    exact hj
  · intro hh
    exact ⟨i, hi, hh, rfl⟩
theorem pickI_sorted (p : Nat → Bool) (k : Nat) : (pickI p k).Pairwise (· < ·) := by
  unfold pickI
  rw [List.pairwise_map]
  exact ((List.pairwise_lt_range (n := k)).filter p).imp (fun h => by omega)
theorem pickI_step (p : Nat → Bool) (k j : Nat) (h0 : 0 < j) (hj : j < (pickI p k).length) : (pickI p k)[j - 1]'(by omega) < (pickI p k)[j] :=
  (List.pairwise_iff_getElem.1 (pickI_sorted p k)) (j - 1) j (by omega) hj (by omega)
theorem found_model (h : PrOk n rs) : foundB n rs (modelI n rs) = gam n rs (lowB n rs) := by
  have hlow : ∀ r ∈ rs, anyB (setB (modelI n rs) n 2) r.neg = anyB (lowB n rs) r.neg := fun r _ => by rw [side_low]
  have hsub : ∀ r ∈ rs.filter (fun r => !failsB r (modelI n rs)), r ∈ rs.filter fun r => !anyB (lowB n rs) r.neg := fun r hr => by
    obtain ⟨h1, h2⟩ := List.mem_filter.1 hr
    refine List.mem_filter.2 ⟨h1, ?_⟩
    rw [fails_set h _ h1, hlow r h1] at h2
    simp at h2
    simp [h2.2]
  refine ext_at (by rw [foundB_len, gam_len]) fun a ha => ?_
  rw [foundB_len] at ha
  rw [Bool.eq_iff_iff, (foundB_is h _).iff (h.filter _) ha, (gam_is h _).iff (h.filter _) ha]
  refine ⟨Der.mono hsub, fun hd => hd (Der _) fun r hr hp => ?_⟩
  obtain ⟨h1, h2⟩ := List.mem_filter.1 hr
  have h0 := (h.rule r h1).1
  refine Der.mk (List.mem_filter.2 ⟨h1, ?_⟩) hp
  rw [fails_set h _ h1, hlow r h1]
  have h3 : anyB (lowB n rs) r.neg = false := by simpa using h2
  have h4 : anyB (setB (modelI n rs) n 0) r.pos = false := by
    rw [any_not (fun y hy => by rw [setB_length]; exact h0.2.1 y hy)]
    have : allB ((setB (modelI n rs) n 0).map (!·)) r.pos = true := by
      rw [show (setB (modelI n rs) n 0).map (!·) = hiB (modelI n rs) n from rfl, side_high h]
      refine allB_iff.2 fun p hpp => ?_
      have hb := h0.2.1 p hpp
      have hdp := Der.mono hsub (hp p hpp)
      have := ((gam_is h (lowB n rs)).iff (h.filter _) (show p.toNat < n by omega)).2 (by rw [Int.toNat_of_nonneg hb.1]; exact hdp)
      rwa [Int.toNat_of_nonneg hb.1] at this
    rw [this]
    rfl
  rw [h3, h4]
  rfl
def falseI (m : List Int) (k : Nat) : List Int := pickI (fun i => decide (m[i]? = some 0)) k
theorem unf_model (h : PrOk n rs) : unfI n rs (modelI n rs) = falseI (modelI n rs) n := by
  unfold unfI falseI pickI
  refine congrArg _ (List.filter_congr fun i hi => ?_)
  have hi' := List.mem_range.1 hi
  rw [found_model h]
  have h1 : atB (hiB (modelI n rs) n) (i : Int) = atB (gam n rs (lowB n rs)) (i : Int) := by rw [side_high h]
  rw [← h1, hiB, notB_at (by rw [setB_length]; exact hi'), setB_at hi', isB_nat, Bool.not_not]
end
end Go.Proofs.Ytmkgechdfimfnaa.Pl
