/-
  Plain words: what a part tells; parts of parts. No program of Go stands here.
  No condition but the premises of each theorem.
-/
import Derived.Test.YtmkgechdfimfnaaPlx
namespace Go.Proofs.Ytmkgechdfimfnaa.Pl
section
variable {n : Nat} {rs : List Rule}
theorem part_rank_len {l : List Step} {R : List Bool} (hl : R.length = l.length) : rank l R l.length = (partI l R).length := by
  unfold rank
  rw [List.take_of_length_le (Nat.le_refl _), List.take_of_length_le (by omega)]
/-- Of its atom the part tells what the whole tells. -/
theorem part_same {l : List Step} (h : Runs n rs l) (hP : PrOk n rs) {a : Int} {R : List Bool} (p : Part n rs l a R) (h0 : 0 ≤ a) (ha : a < n) : valI (stI n (partI l R) (partI l R).length) a = valI (knownI n l) a := by
  obtain ⟨i, hi, hon⟩ := p.has
  have hil := byI_len l a
  rw [← part_rank_len p.len, stP_stI p.len (Nat.le_refl _), part_val h hP p _ (Nat.le_refl _) a h0 ha, known_val h0 ha, if_pos (by omega : 0 ≤ byI l a), if_pos ⟨by omega, by rw [hi]; exact hon⟩]
/-- The last step of the part has its atom. -/
theorem part_last {l : List Step} (h : Runs n rs l) (hP : PrOk n rs) {a : Int} {R : List Bool} (p : Part n rs l a R) : ∃ hl : (partI l R).length - 1 < (partI l R).length, a ∈ (partI l R)[(partI l R).length - 1].atoms := by
  obtain ⟨i, hi, hon⟩ := p.has
  obtain ⟨hil, hm, _⟩ := byI_mem hi
  obtain ⟨h1, h2⟩ := part_at p.len hon hil
  have htop := p.top h hP
  have hflat : ∀ (d : Nat), i + 1 + d ≤ l.length → rank l R (i + 1 + d) = rank l R (i + 1) := by
    intro d
    induction d with
    | zero => intro _; rfl
    | succ d ih =>
      intro hd
      have h3 : ¬ on R (i + 1 + d) := fun hh => by have := htop _ hh; omega
      rw [show i + 1 + (d + 1) = (i + 1 + d) + 1 from rfl, rank_succ (by omega) (by rw [p.len]; omega), if_neg (fun hh => h3 ((on_at (by rw [p.len]; omega)).2 hh)), ih (by omega)]
      rfl
  have h4 := hflat (l.length - (i + 1)) (by omega)
  rw [show i + 1 + (l.length - (i + 1)) = l.length from by omega, part_rank_len p.len, rank_succ hil (on_lt hon), if_pos ((on_at (on_lt hon)).1 hon)] at h4
  have h5 : (partI l R).length - 1 = rank l R i := by omega
  refine ⟨by omega, ?_⟩
  simp only [h5]
  rw [h2]
  exact hm
theorem part_sub {l : List Step} {R : List Bool} (hl : R.length = l.length) : List.Sublist (partI l R) l := by
  unfold partI
  have h1 : ((l.zip R).filter (·.2)).Sublist (l.zip R) := List.filter_sublist
  have h2 := h1.map Prod.fst
  rwa [List.map_fst_zip (by omega)] at h2
theorem sub_skip {α : Type} {x y : α} {t L : List α} (h : List.Sublist (x :: t) (y :: L)) (hne : x ≠ y) : List.Sublist (x :: t) L := by
  cases h with
  | cons _ h => exact h
  | cons_cons _ h => exact absurd rfl hne
theorem for_open {p : List Step × List Int} {a : Int} (h0 : 0 ≤ a) (ha : a < n) (h : valI (knownI n p.1) a = 1) : forI n rs p a = p := by
  have h1 : byI p.1 a < 0 := by
    rw [known_val h0 ha] at h
    by_cases h2 : 0 ≤ byI p.1 a
    · rw [if_pos h2] at h
      rcases tellAt_range h2 with h3 | h3 <;> omega
    · omega
  rw [forI, if_neg (by omega), if_pos h1]
theorem for_told {p : List Step × List Int} {a : Int} (h0 : 0 ≤ a) (ha : a < n) (h : valI (knownI n p.1) a ≠ 1) : 0 ≤ byI p.1 a ∧ forI n rs p a = (partI p.1 (needI n rs p.1 a), []) := by
  have h1 : 0 ≤ byI p.1 a := by
    rw [known_val h0 ha] at h
    by_cases h2 : 0 ≤ byI p.1 a
    · exact h2
    · rw [if_neg h2] at h; exact absurd rfl h
  exact ⟨h1, by rw [forI, if_neg (by omega), if_neg (by omega)]⟩
theorem for_by {p : List Step × List Int} {a : Int} (h0 : 0 ≤ a) (ha : a < n) (h1 : 0 ≤ byI p.1 a) : forI n rs p a = (partI p.1 (needI n rs p.1 a), []) := by rw [forI, if_neg (by omega), if_neg (by omega)]
theorem for_noby {p : List Step × List Int} {a : Int} (h0 : 0 ≤ a) (ha : a < n) (h1 : byI p.1 a < 0) : forI n rs p a = p := by rw [forI, if_neg (by omega), if_pos h1]

/-! ### The part of a part -/
theorem flatMap_same {α β : Type} {f g : α → List β} : ∀ (l : List α), (∀ x ∈ l, f x = g x) → l.flatMap f = l.flatMap g
  | [], _ => rfl
  | x :: l, h => by rw [List.flatMap_cons, List.flatMap_cons, h x (by simp), flatMap_same l fun y hy => h y (by simp [hy])]
theorem part_tell {l : List Step} (h : Runs n rs l) (hP : PrOk n rs) {a : Int} {R : List Bool} (p : Part n rs l a R) {b : Int} {j : Nat} (hb : byI l b = j) (hon : on R j) : tellAt (partI l R) b = tellAt l b := by
  obtain ⟨hj, _⟩ := byI_mem hb
  obtain ⟨h1, h2⟩ := part_at p.len hon hj
  rw [tellAt_at (part_by h hP p hb hon) h1, h2, tellAt_at hb hj]
theorem ahead_same {l : List Step} (h : Runs n rs l) (hP : PrOk n rs) {a : Int} {R : List Bool} (p : Part n rs l a R) {i : Nat} (hi : i < l.length) {ns : List Int} (hr : ∀ b ∈ ns, 0 ≤ b ∧ b < n) {v : Int}
    (hf : 0 ≤ aheadI l (knownI n l) i ns v → ∀ b ∈ pickA ns (aheadI l (knownI n l) i ns v), ∃ j : Nat, byI l b = j ∧ on R j) : aheadI (partI l R) (knownI n (partI l R)) (rank l R i) ns v = aheadI l (knownI n l) i ns v := by
  have key : ∀ b : Int, 0 ≤ b → b < n → (decide (valI (knownI n (partI l R)) b = v) && decide (0 ≤ byI (partI l R) b) && decide (byI (partI l R) b < rank l R i)) = true → (decide (valI (knownI n l) b = v) && decide (0 ≤ byI l b) && decide (byI l b < i)) = true := fun b h0 h1 hq => by
    simp only [Bool.and_eq_true, decide_eq_true_eq] at hq ⊢
    obtain ⟨⟨h2, h3⟩, h4⟩ := hq
    have h5 : ∃ j : Nat, byI l b = j ∧ on R j := by
      by_cases hh : ∃ j : Nat, byI l b = j ∧ on R j
      · exact hh
      · have := part_by_not h p (b := b) (fun j hj hon => hh ⟨j, hj, hon⟩)
        omega
    obtain ⟨j, hj, hon⟩ := h5
    have h6 := part_by h hP p hj hon
    rw [known_val h0 h1, if_pos h3, part_tell h hP p hj hon] at h2
    rw [known_val h0 h1, if_pos (by omega)]
    refine ⟨⟨h2, by omega⟩, ?_⟩
    by_cases h7 : j < i
    · omega
    · have := rank_mono p.len j i (by omega) (by have := byI_len l b; omega)
      omega
  rcases findP_lt (fun b => decide (valI (knownI n l) b = v) && decide (0 ≤ byI l b) && decide (byI l b < i)) ns with h1 | ⟨k, hk, h1, h2, h3⟩
  · have h4 : aheadI l (knownI n l) i ns v < 0 := h1
    have h5 := findP_any (fun b => decide (valI (knownI n l) b = v) && decide (0 ≤ byI l b) && decide (byI l b < i)) ns
    rw [decide_eq_false (by omega)] at h5
    have h6 := List.any_eq_false.1 h5.symm
    have e1 : aheadI l (knownI n l) i ns v = -1 := findP_none (Nat.le_refl _) fun j hj _ => by
      have := h6 ns[j] (List.getElem_mem hj)
      simpa only [Bool.not_eq_true] using this
    have e2 : aheadI (partI l R) (knownI n (partI l R)) (rank l R i) ns v = -1 := findP_none (Nat.le_refl _) fun j hj _ => by
      have h7 := h6 ns[j] (List.getElem_mem hj)
      have hrj := hr _ (List.getElem_mem hj)
      rw [← Bool.not_eq_true]
      exact fun hh => h7 (key _ hrj.1 hrj.2 hh)
    rw [e1, e2]
  · have h4 : aheadI l (knownI n l) i ns v = k := h1
    have hrk := hr _ (List.getElem_mem hk)
    have h5 := hf (by omega) ns[k] (by rw [h4]; simp [pickA, hk])
    obtain ⟨j, hj, hon⟩ := h5
    simp only [Bool.and_eq_true, decide_eq_true_eq] at h2
    have hjl := byI_len l ns[k]
    have e2 : aheadI (partI l R) (knownI n (partI l R)) (rank l R i) ns v = k := findP_at hk (by
      have h6 := part_by h hP p hj hon
      simp only [Bool.and_eq_true, decide_eq_true_eq]
      refine ⟨⟨?_, by omega⟩, ?_⟩
      · rw [known_val hrk.1 hrk.2, if_pos (by omega), part_tell h hP p hj hon]
        have := h2.1.1
        rwa [known_val hrk.1 hrk.2, if_pos h2.1.2] at this
      · have := rank_lt p.len hon (by omega : j < i) (by omega)
        omega) (fun y hy hyk => by
      have h7 := h3 y hy hyk
      have hry := hr _ (List.getElem_mem hy)
      rw [← Bool.not_eq_true] at h7 ⊢
      exact fun hh => h7 (key _ hry.1 hry.2 hh))
    rw [e2, h4]
/-- In the part a step leans on what it leaned on. -/
theorem part_leans {l : List Step} (h : Runs n rs l) (hP : PrOk n rs) {a : Int} {R : List Bool} (p : Part n rs l a R) {i : Nat} (hi : i < l.length) (hon : on R i) : leansI rs (partI l R) (knownI n (partI l R)) (rank l R i) l[i] = leansI rs l (knownI n l) i l[i] := by
  by_cases h0 : 0 ≤ l[i].rule
  · obtain ⟨hr, _⟩ := h.fires hP hi h0
    rw [leansI_rule h0 hr, leansI_rule h0 hr]
  · rw [leansI_set (by omega), leansI_set (by omega)]
    refine flatMap_same _ fun c hc => ?_
    unfold atomR
    refine flatMap_same _ fun y hy => ?_
    obtain ⟨x, hx, rfl, hxh⟩ := ofI_mem hy
    have hrk := (hP.rule _ (List.getElem_mem hx)).1
    have hcl : ∀ b ∈ reasonI l (knownI n l) i l[i].atoms rs[x], ∃ j : Nat, byI l b = j ∧ on R j := fun b hb => p.close i hi hon b (by
      rw [leansI_set (by omega), List.mem_flatMap]
      refine ⟨c, hc, ?_⟩
      rw [atomR, List.mem_flatMap]
      exact ⟨(x : Int), hy, by rw [reasR_at hx]; exact hb⟩)
    rw [reasR_at hx, reasR_at hx]
    unfold reasonI at hcl ⊢
    by_cases hm : (rs[x].pos.any fun q => decide (q ∈ l[i].atoms)) = true
    · rw [if_pos hm, if_pos hm]
    · rw [if_neg hm] at hcl
      rw [if_neg hm, if_neg hm]
      have e1 := ahead_same h hP p hi hrk.2.1 (v := 0) (fun hh b hb => hcl b (by rw [if_pos hh]; exact hb))
      rw [e1]
      by_cases hp : 0 ≤ aheadI l (knownI n l) i rs[x].pos 0
      · rw [if_pos hp, if_pos hp]
      · have e2 := ahead_same h hP p hi hrk.2.2 (v := 2) (fun hh b hb => hcl b (by rw [if_neg hp]; exact hb))
        rw [if_neg hp, if_neg hp, e2]
theorem partI_all {l : List Step} {R : List Bool} (hl : R.length = l.length) (h : ∀ t, t < l.length → on R t) : partI l R = l := by
  unfold partI
  have h1 : (l.zip R).filter (·.2) = l.zip R := by
    rw [List.filter_eq_self]
    rintro ⟨s, b⟩ hsb
    obtain ⟨t, ht, he⟩ := List.getElem_of_mem hsb
    simp only [List.length_zip] at ht
    rw [List.getElem_zip] at he
    have h2 := (on_at (by omega)).1 (h t (by omega))
    have : b = R[t]'(by omega) := by
      have := congrArg Prod.snd he
      exact this.symm
    rw [this]
    exact h2
  rw [h1, List.map_fst_zip (by omega)]
/-- Of a part that an atom needs, of which it needs a part again, nothing goes. -/
theorem part_again {l : List Step} (h : Runs n rs l) (hP : PrOk n rs) {a : Int} (h0 : 0 ≤ byI l a) : 0 ≤ byI (partI l (needI n rs l a)) a ∧ partI (partI l (needI n rs l a)) (needI n rs (partI l (needI n rs l a)) a) = partI l (needI n rs l a) := by
  have p := h.part hP h0
  have hq := part_runs h hP p
  obtain ⟨i0, hi0, hon0⟩ := p.has
  have hby0 := part_by h hP p hi0 hon0
  have hby : 0 ≤ byI (partI l (needI n rs l a)) a := by omega
  refine ⟨hby, ?_⟩
  have p2 := hq.part hP hby
  have key := p.least (fun j => on (needI n rs (partI l (needI n rs l a)) a) (rank l (needI n rs l a) j)) (fun i hi => by
    have : i = i0 := by omega
    subst this
    obtain ⟨i2, hi2, hon2⟩ := p2.has
    have : i2 = rank l (needI n rs l a) i := by omega
    rw [← this]
    exact hon2) (fun i hi hon hS b hb j hj => by
    obtain ⟨hr1, hr2⟩ := part_at p.len hon hi
    obtain ⟨j1, hj1, hon1⟩ := p.close i hi hon b hb
    have : j1 = j := by omega
    subst this
    rw [← part_leans h hP p hi hon] at hb
    obtain ⟨j2, hj2, hon2⟩ := p2.close _ hr1 hS b (by rw [hr2]; exact hb)
    have h3 := part_by h hP p hj1 hon1
    have : j2 = rank l (needI n rs l a) j1 := by omega
    rw [← this]
    exact hon2)
  refine partI_all p2.len fun t ht => ?_
  obtain ⟨j, hj, hon, hr, _⟩ := part_idx p.len ht
  rw [← hr]
  exact key j hon
/-- What the part tells of needs no more than the part has. -/
theorem part_in {l : List Step} (h : Runs n rs l) (hP : PrOk n rs) {a b : Int} (h0 : 0 ≤ byI l a) (hb : 0 ≤ byI (partI l (needI n rs l a)) b) : 0 ≤ byI l b ∧ ∀ s ∈ partI l (needI n rs l b), s ∈ partI l (needI n rs l a) := by
  have p := h.part hP h0
  have h1 : ∃ j : Nat, byI l b = j ∧ on (needI n rs l a) j := by
    by_cases hh : ∃ j : Nat, byI l b = j ∧ on (needI n rs l a) j
    · exact hh
    · have := part_by_not h p (b := b) (fun j hj hon => hh ⟨j, hj, hon⟩)
      omega
  obtain ⟨j0, hj0, hon0⟩ := h1
  have pb := h.part hP (a := b) (by omega)
  have key := pb.least (fun j => on (needI n rs l a) j) (fun i hi => by
    have : i = j0 := by omega
    subst this
    exact hon0) (fun i hi _ hS c hc j hj => by
    obtain ⟨j1, hj1, hon1⟩ := p.close i hi hS c hc
    have : j1 = j := by omega
    subst this
    exact hon1)
  refine ⟨by omega, fun s hs => ?_⟩
  obtain ⟨t, ht, rfl⟩ := List.getElem_of_mem hs
  obtain ⟨j, hj, hon, _, he⟩ := part_idx pb.len ht
  obtain ⟨h2, h3⟩ := part_at p.len (key j hon) hj
  rw [he, ← h3]
  exact List.getElem_mem h2
theorem part_small {l : List Step} {R : List Bool} (hl : R.length = l.length) {P : Step → Prop} (h : ∀ s ∈ l, P s) : ∀ s ∈ partI l R, P s := fun s hs => h s ((part_sub hl).subset hs)
end
end Go.Proofs.Ytmkgechdfimfnaa.Pl
