/-
  Plain words: steps that hold one behind the other; what they tell. No program of Go stands here.
  No condition but the premises of each theorem.
-/
import Derived.Test.YtmkgechdfimfnaaPlo
namespace Go.Proofs.Ytmkgechdfimfnaa.Pl
section
variable {n : Nat} {rs : List Rule}
/-- What is told ahead of step i. -/
def stI (n : Nat) (l : List Step) (i : Nat) : List Int := (l.take i).foldl tellI (startI n)
theorem stI_zero (l : List Step) : stI n l 0 = startI n := rfl
theorem stI_succ {l : List Step} {i : Nat} (h : i < l.length) : stI n l (i + 1) = tellI (stI n l i) l[i] := by
  unfold stI
  rw [List.take_succ_eq_append_getElem h, List.foldl_append]
  rfl
theorem foldl_tell_len : ∀ (l : List Step) (m : List Int), (l.foldl tellI m).length = m.length
  | [], _ => rfl
  | s :: l, m => by rw [List.foldl_cons, foldl_tell_len l, tellI_len]
theorem stI_len (l : List Step) (i : Nat) : (stI n l i).length = n := by
  unfold stI
  rw [foldl_tell_len]
  simp [startI]
theorem stI_range (l : List Step) (i : Nat) : ∀ x ∈ stI n l i, 0 ≤ x ∧ x ≤ 2 := by
  have key : ∀ (l : List Step) (m : List Int), (∀ x ∈ m, 0 ≤ x ∧ x ≤ 2) → ∀ x ∈ l.foldl tellI m, 0 ≤ x ∧ x ≤ 2 := by
    intro l
    induction l with
    | nil => exact fun m h => h
    | cons s l ih => exact fun m h => ih _ (tellI_mem h)
  exact key _ _ startI_mem
/-- Each step holds, with what the steps ahead told. -/
def Runs (n : Nat) (rs : List Rule) (l : List Step) : Prop := ∀ (i : Nat) (h : i < l.length), stepOk rs (stI n l i) l[i] = true
theorem Runs.nil : Runs n rs [] := fun i h => by simp at h
theorem stI_app {l l2 : List Step} {i : Nat} (h : i ≤ l.length) : stI n (l ++ l2) i = stI n l i := by
  unfold stI
  rw [List.take_append_of_le_length h]
theorem Runs.snoc {l : List Step} {s : Step} (h : Runs n rs l) (hs : stepOk rs (stI n l l.length) s = true) : Runs n rs (l ++ [s]) := fun i hi => by
  by_cases h1 : i < l.length
  · rw [stI_app (by omega), List.getElem_append_left h1]
    exact h i h1
  · have h2 : i = l.length := by simp at hi; omega
    subst h2
    rw [stI_app (Nat.le_refl _)]
    simpa using hs
theorem partly_runs : ∀ (l pre : List Step), Runs n rs pre → (partly rs (stI n pre pre.length) l).2 = l.length → Runs n rs (pre ++ l) ∧ stI n (pre ++ l) (pre ++ l).length = (partly rs (stI n pre pre.length) l).1
  | [], pre, h, _ => by simpa [partly] using h
  | s :: l, pre, h, hp => by
    rw [partly] at hp ⊢
    by_cases hs : stepOk rs (stI n pre pre.length) s = true
    · rw [if_pos hs] at hp ⊢
      have h1 := h.snoc hs
      have h2 : stI n (pre ++ [s]) (pre ++ [s]).length = tellI (stI n pre pre.length) s := by
        have h3 : pre.length < (pre ++ [s]).length := by simp
        have h4 := stI_succ (n := n) h3
        rw [stI_app (Nat.le_refl _)] at h4
        simpa using h4
      have h5 := partly_runs l (pre ++ [s]) h1 (by rw [h2]; simpa using hp)
      rw [h2, List.append_assoc] at h5
      exact h5
    · rw [if_neg hs] at hp
      simp at hp
theorem Built.runs {l : List Step} {m : List Int} (h : Built n rs l m) : Runs n rs l ∧ stI n l l.length = m := by
  have h1 := partly_runs (n := n) (rs := rs) l [] Runs.nil (by show (partly rs (startI n) l).2 = _; rw [h.part])
  rw [List.nil_append] at h1
  refine ⟨h1.1, h1.2.trans ?_⟩
  show (partly rs (startI n) l).1 = m
  rw [h.part]
/-- What the first step that has an atom tells of it. -/
def tellAt (l : List Step) (a : Int) : Int := match l[(byI l a).toNat]? with | some s => tellOf s | none => 1
theorem byI_mem {l : List Step} {a : Int} {i : Nat} (h : byI l a = i) : ∃ hi : i < l.length, a ∈ l[i].atoms ∧ ∀ (j : Nat) (hj : j < l.length), j < i → a ∉ l[j].atoms := by
  obtain ⟨hi, h1, h2⟩ := findP_spec h
  exact ⟨hi, by simpa using h1, fun j hj hji => by simpa using h2 j hj hji⟩
theorem byI_le {l : List Step} {a : Int} {i : Nat} (hi : i < l.length) (h : a ∈ l[i].atoms) : 0 ≤ byI l a ∧ byI l a ≤ i := by
  rcases findP_lt (fun s : Step => decide (a ∈ s.atoms)) l with h1 | ⟨k, hk, h1, h2, h3⟩
  · have h4 := findP_any (fun s : Step => decide (a ∈ s.atoms)) l
    rw [decide_eq_false (by omega)] at h4
    have := List.any_eq_false.1 h4.symm l[i] (List.getElem_mem hi)
    simp [h] at this
  · have h5 : byI l a = k := h1
    refine ⟨by omega, ?_⟩
    by_cases h6 : i < k
    · have := h3 i hi h6
      simp [h] at this
    · omega
theorem tellAt_at {l : List Step} {a : Int} {i : Nat} (h : byI l a = i) (hi : i < l.length) : tellAt l a = tellOf l[i] := by
  unfold tellAt
  rw [h, show ((i : Nat) : Int).toNat = i from rfl, List.getElem?_eq_getElem hi]
theorem tellOf_range (s : Step) : tellOf s = 0 ∨ tellOf s = 2 := by unfold tellOf; split <;> simp
theorem tellAt_range {l : List Step} {a : Int} (h : 0 ≤ byI l a) : tellAt l a = 0 ∨ tellAt l a = 2 := by
  obtain ⟨i, hi⟩ := Int.eq_ofNat_of_zero_le h
  obtain ⟨h1, _⟩ := byI_mem hi
  rw [tellAt_at hi h1]
  exact tellOf_range _
theorem Runs.val {l : List Step} (h : Runs n rs l) : ∀ (i : Nat), i ≤ l.length → ∀ a : Int, 0 ≤ a → a < n → valI (stI n l i) a = if 0 ≤ byI l a ∧ byI l a < i then tellAt l a else 1
  | 0, _, a, h0, ha => by
    rw [stI_zero, startI_val h0 ha, if_neg (by omega)]
  | i + 1, hi, a, h0, ha => by
    have hil : i < l.length := by omega
    have ih := h.val i (by omega) a h0 ha
    have hs := h i hil
    have hset := (setOpen_iff.1 (stepOk_set hs)).1
    rw [stI_succ hil, tell_val (stepOk_set hs) h0 (by rw [stI_len]; exact ha)]
    by_cases hm : a ∈ l[i].atoms
    · rw [if_pos hm]
      have h1 := byI_le hil hm
      have h2 := (hset a hm).2
      have h3 : ¬ (0 ≤ byI l a ∧ byI l a < i) := fun hh => by
        rw [ih, if_pos hh] at h2
        rcases tellAt_range hh.1 with h4 | h4 <;> omega
      have h4 : byI l a = i := by omega
      have h5 : 0 ≤ byI l a ∧ byI l a < ((i + 1 : Nat) : Int) := by omega
      rw [if_pos h5, tellAt_at h4 hil]
      rfl
    · rw [if_neg hm, ih]
      by_cases h1 : 0 ≤ byI l a ∧ byI l a < i
      · rw [if_pos h1, if_pos (by omega)]
      · rw [if_neg h1, if_neg]
        rintro ⟨h2, h3⟩
        have h4 : byI l a = i := by omega
        exact hm (byI_mem h4).2.1
theorem Runs.uniq {l : List Step} (h : Runs n rs l) {i : Nat} (hi : i < l.length) {a : Int} (ha : a ∈ l[i].atoms) : byI l a = i := by
  have h1 := byI_le hi ha
  have h2 := (setOpen_iff.1 (stepOk_set (h i hi))).1 a ha
  rw [stI_len] at h2
  have h3 := h.val i (by omega) a h2.1.1 h2.1.2
  rw [h2.2] at h3
  by_cases h4 : byI l a < i
  · rw [if_pos ⟨h1.1, h4⟩] at h3
    rcases tellAt_range h1.1 with h5 | h5 <;> omega
  · omega
theorem Runs.atoms {l : List Step} (h : Runs n rs l) {i : Nat} (hi : i < l.length) {a : Int} (ha : a ∈ l[i].atoms) : 0 ≤ a ∧ a < n := by
  have h2 := (setOpen_iff.1 (stepOk_set (h i hi))).1 a ha
  rw [stI_len] at h2
  exact h2.1
theorem known_len' (n : Nat) (l : List Step) : (knownI n l).length = n := by simp [knownI]
theorem known_val {l : List Step} {a : Int} (h0 : 0 ≤ a) (ha : a < n) : valI (knownI n l) a = if 0 ≤ byI l a then tellAt l a else 1 := by
  obtain ⟨k, rfl⟩ := Int.eq_ofNat_of_zero_le h0
  have hk : k < n := by omega
  have h1 : (knownI n l)[k]? = some (match l.find? (fun s => decide ((k : Int) ∈ s.atoms)) with | some s => tellOf s | none => 1) := by simp [knownI, hk]; rfl
  rw [valI_nat, List.getD_eq_getElem?_getD, h1, Option.getD_some]
  rcases findP_lt (fun s : Step => decide ((k : Int) ∈ s.atoms)) l with h | ⟨i, hi, h, hp, hn⟩
  · rw [if_neg (by unfold byI; omega)]
    have h2 := findP_any (fun s : Step => decide ((k : Int) ∈ s.atoms)) l
    rw [decide_eq_false (by omega)] at h2
    have h3 := List.any_eq_false.1 h2.symm
    rw [List.find?_eq_none.2 (fun s hs => h3 s hs)]
  · have h4 : byI l (k : Int) = i := h
    rw [if_pos (by omega), tellAt_at h4 hi]
    have h5 : l.find? (fun s => decide ((k : Int) ∈ s.atoms)) = some l[i] := by
      rw [List.find?_eq_some_iff_getElem]
      exact ⟨hp, i, hi, rfl, fun j hj => by have := hn j (by omega) hj; simpa using this⟩
    rw [h5]
theorem valI_ext {a b : List Int} (hl : a.length = b.length) (h : ∀ x : Int, 0 ≤ x → x < a.length → valI a x = valI b x) : a = b := by
  refine List.ext_getElem hl fun i h1 h2 => ?_
  have := h (i : Int) (by omega) (by omega)
  simpa [valI, h1, h2] using this
/-- What steps that hold tell is what they come to. -/
theorem Runs.known {l : List Step} (h : Runs n rs l) : knownI n l = stI n l l.length := by
  refine valI_ext (by rw [known_len', stI_len]) fun a h0 ha => ?_
  rw [known_len'] at ha
  rw [known_val h0 ha, h.val _ (Nat.le_refl _) a h0 ha]
  have := byI_len l a
  by_cases h1 : 0 ≤ byI l a
  · rw [if_pos h1, if_pos ⟨h1, this⟩]
  · rw [if_neg h1, if_neg (by omega)]
/-- What a step leans on was told ahead. -/
theorem Runs.fires {l : List Step} (h : Runs n rs l) (hP : PrOk n rs) {i : Nat} (hi : i < l.length) (h0 : 0 ≤ l[i].rule) : ∃ hr : l[i].rule.toNat < rs.length, l[i].atoms = [rs[l[i].rule.toNat].head] ∧ (∀ b ∈ rs[l[i].rule.toNat].pos, (0 ≤ byI l b ∧ byI l b < i) ∧ tellAt l b = 2) ∧ ∀ b ∈ rs[l[i].rule.toNat].neg, (0 ≤ byI l b ∧ byI l b < i) ∧ tellAt l b = 0 := by
  obtain ⟨hr, h1, h2⟩ := stepOk_rule (h i hi) h0
  have hrk := (hP.rule _ (List.getElem_mem hr)).1
  unfold firesB at h2
  rw [Bool.and_eq_true, areB_iff, areB_iff] at h2
  refine ⟨hr, h1, fun b hb => ?_, fun b hb => ?_⟩
  · have h3 := h2.1 b hb
    have h4 := hrk.2.1 b hb
    rw [h.val i (by omega) b h4.1 h4.2] at h3
    by_cases h5 : 0 ≤ byI l b ∧ byI l b < i
    · rw [if_pos h5] at h3; exact ⟨h5, h3⟩
    · rw [if_neg h5] at h3; omega
  · have h3 := h2.2 b hb
    have h4 := hrk.2.2 b hb
    rw [h.val i (by omega) b h4.1 h4.2] at h3
    by_cases h5 : 0 ≤ byI l b ∧ byI l b < i
    · rw [if_pos h5] at h3; exact ⟨h5, h3⟩
    · rw [if_neg h5] at h3; omega
theorem Runs.acyc {l : List Step} (h : Runs n rs l) (hP : PrOk n rs) {m : List Int} {i : Nat} (hi : i < l.length) {b : Int} (hb : b ∈ leansI rs l m i l[i]) : 0 ≤ byI l b ∧ byI l b < i := by
  by_cases h0 : 0 ≤ l[i].rule
  · obtain ⟨hr, _, h1, h2⟩ := h.fires hP hi h0
    rw [leansI_rule h0 hr] at hb
    rcases List.mem_append.1 hb with hb | hb
    · exact (h1 b hb).1
    · exact (h2 b hb).1
  · rw [leansI_set (by omega), List.mem_flatMap] at hb
    obtain ⟨c, _, hb⟩ := hb
    rw [atomR, List.mem_flatMap] at hb
    obtain ⟨x, _, hb⟩ := hb
    unfold reasR at hb
    split at hb
    · exact (reasonI_mem hb).2
    · cases hb
theorem Runs.lean {l : List Step} (h : Runs n rs l) (hP : PrOk n rs) : LeanOk rs l := fun s hs h0 => by
  obtain ⟨i, hi, rfl⟩ := List.getElem_of_mem hs
  obtain ⟨hr, _, h1, h2⟩ := h.fires hP hi h0
  refine ⟨hr, fun b hb => ?_⟩
  rcases List.mem_append.1 hb with hb | hb
  · exact (h1 b hb).1.1
  · exact (h2 b hb).1.1
theorem pairwise_len {l : List Int} (h : l.Pairwise (· < ·)) (hr : ∀ x ∈ l, 0 ≤ x ∧ x < n) : l.length ≤ n := by
  have h1 : l.Nodup := h.imp (fun h => by omega)
  have h9 := nodup_sub (l := l) (O := (List.range n).map (fun (i : Nat) => (i : Int))) h1 (fun x hx => by
    rw [List.mem_map]
    have hxr := hr x hx
    exact ⟨x.toNat, List.mem_range.2 (by omega), by omega⟩)
  simpa using h9
theorem Runs.small {l : List Step} (h : Runs n rs l) : ∀ s ∈ l, s.atoms.length ≤ n := fun s hs => by
  obtain ⟨i, hi, rfl⟩ := List.getElem_of_mem hs
  exact pairwise_len (setOpen_iff.1 (stepOk_set (h i hi))).2.1 fun x hx => h.atoms hi hx
theorem Runs.told {l : List Step} (h : Runs n rs l) : ∀ (i : Nat), i ≤ l.length → i ≤ cntB (toldB n (stI n l i))
  | 0, _ => Nat.zero_le _
  | i + 1, hi => by
    have ih := h.told i (by omega)
    have h1 := told_lt (n := n) (stI_len l i) (stepOk_set (h i (by omega)))
    rw [stI_succ (by omega)]
    omega
theorem Runs.len {l : List Step} (h : Runs n rs l) : l.length ≤ n := by
  have h1 := h.told l.length (Nat.le_refl _)
  have h2 := cntB_le (toldB n (stI n l l.length))
  simp only [toldB, soB, List.length_map, List.length_range] at h1 h2
  omega
theorem Runs.rule {l : List Step} (h : Runs n rs l) : ∀ s ∈ l, -1 ≤ s.rule ∧ s.rule < rs.length := fun s hs => by
  obtain ⟨i, hi, rfl⟩ := List.getElem_of_mem hs
  by_cases h0 : 0 ≤ l[i].rule
  · obtain ⟨hr, _⟩ := stepOk_rule (h i hi) h0
    omega
  · have := (stepOk_unf (h i hi) (by omega)).1
    omega
theorem why_runs (hP : PrOk n rs) : Runs n rs (whyP n rs).1 ∧ knownI n (whyP n rs).1 = modelI n rs := by
  obtain ⟨hb, _⟩ := steps_built hP
  have h1 := hb.runs
  refine ⟨h1.1, ?_⟩
  show knownI n (stepsI n rs).1 = _
  rw [h1.1.known, h1.2, built_model hP]
end
end Go.Proofs.Ytmkgechdfimfnaa.Pl
