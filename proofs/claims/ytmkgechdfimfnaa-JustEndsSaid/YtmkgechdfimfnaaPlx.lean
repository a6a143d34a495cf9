/-
  Plain words: the part of a proof that an atom needs: it holds by itself, it tells the same, it needs no more. No program of Go stands here.
  No condition but the premises of each theorem.
-/
import Derived.Test.YtmkgechdfimfnaaPls
namespace Go.Proofs.Ytmkgechdfimfnaa.Pl
section
variable {n : Nat} {rs : List Rule}
def on (nd : List Bool) (j : Nat) : Prop := nd.getD j false = true
instance (nd : List Bool) (j : Nat) : Decidable (on nd j) := inferInstanceAs (Decidable (nd.getD j false = true))
theorem sing_all {x : Int} {P : Int → Prop} (h : P x) : ∀ y ∈ [x], P y := fun y hy => by
  have : y = x := by simpa using hy
  subst this
  exact h
theorem markI_on {l : List Step} : ∀ (ns : List Int) (nd : List Bool) (j : Nat), (∀ b ∈ ns, 0 ≤ byI l b ∧ byI l b < nd.length) → (on (markI l nd ns) j ↔ on nd j ∨ ∃ b ∈ ns, byI l b = j)
  | [], nd, j, _ => by simp [markI, on]
  | a :: ns, nd, j, h => by
    have h1 := h a (by simp)
    show on (markI l (nd.set (byI l a).toNat true) ns) j ↔ _
    rw [markI_on ns _ j (fun b hb => by rw [List.length_set]; exact h b (by simp [hb]))]
    have h2 : on (nd.set (byI l a).toNat true) j ↔ on nd j ∨ byI l a = j := by
      unfold on
      by_cases h3 : (byI l a).toNat = j
      · have h4 : byI l a = j := by omega
        have h5 : j < nd.length := by omega
        simp [h4, h5]
      · have h4 : ¬ byI l a = j := by omega
        simp [h3, h4]
    rw [h2]
    constructor
    · rintro ((h3 | h3) | ⟨b, hb, h3⟩)
      · exact .inl h3
      · exact .inr ⟨a, by simp, h3⟩
      · exact .inr ⟨b, by simp [hb], h3⟩
    · rintro (h3 | ⟨b, hb, h3⟩)
      · exact .inl (.inl h3)
      · rcases List.mem_cons.1 hb with rfl | hb
        · exact .inl (.inr h3)
        · exact .inr ⟨b, hb, h3⟩
/-- What is marked in the end: each leans on what is marked, and no more is. -/
structure Needs (rs : List Rule) (l : List Step) (m : List Int) (k : Nat) (nd R : List Bool) : Prop where
  len : R.length = nd.length
  keep : ∀ j, on nd j → on R j
  high : ∀ j, k ≤ j → on R j → on nd j
  close : ∀ (i : Nat) (h : i < l.length), i < k → on R i → ∀ b ∈ leansI rs l m i l[i], ∃ j : Nat, byI l b = j ∧ on R j
  least : ∀ S : Nat → Prop, (∀ j, on nd j → S j) → (∀ (i : Nat) (h : i < l.length), i < k → on R i → S i → ∀ b ∈ leansI rs l m i l[i], ∀ j : Nat, byI l b = j → S j) → ∀ j, on R j → S j
theorem forN_needs {l : List Step} {m : List Int} (hac : ∀ (i : Nat) (h : i < l.length), ∀ b ∈ leansI rs l m i l[i], 0 ≤ byI l b ∧ byI l b < i) : ∀ (k : Nat) (nd : List Bool), k ≤ l.length → nd.length = l.length → Needs rs l m k nd (forN rs l m k nd)
  | 0, nd, _, _ => ⟨rfl, fun _ h => h, fun _ _ h => h, fun i _ h => absurd h (Nat.not_lt_zero _), fun S h _ j hj => h j hj⟩
  | k + 1, nd, hk, hn => by
    have hkl : k < l.length := by omega
    cases hv : nd.getD k false with
    | false =>
      rw [forN_skip hkl hv]
      have ih := forN_needs hac k nd (by omega) hn
      have hno : ¬ on (forN rs l m k nd) k := fun hh => by
        have := ih.high k (Nat.le_refl _) hh
        unfold on at this
        rw [hv] at this
        cases this
      refine ⟨ih.len, ih.keep, fun j hj => ih.high j (by omega), fun i hi hik hon => ?_, fun S h1 h2 => ih.least S h1 (fun i hi hik => h2 i hi (by omega))⟩
      by_cases he : i = k
      · subst he; exact absurd hon hno
      · exact ih.close i hi (by omega) hon
    | true =>
      rw [forN_do hkl hv]
      have hin : ∀ b ∈ leansI rs l m k l[k], 0 ≤ byI l b ∧ byI l b < nd.length := fun b hb => by have := hac k hkl b hb; omega
      have ih := forN_needs hac k (markI l nd (leansI rs l m k l[k])) (by omega) (by rw [markI_len]; exact hn)
      have hmk := fun j => markI_on (leansI rs l m k l[k]) nd j hin
      refine ⟨by rw [ih.len, markI_len], fun j hj => ih.keep j ((hmk j).2 (.inl hj)), fun j hj hon => ?_, fun i hi hik hon b hb => ?_, fun S h1 h2 j hj => ?_⟩
      · rcases (hmk j).1 (ih.high j (by omega) hon) with h3 | ⟨b, hb, h3⟩
        · exact h3
        · have := hac k hkl b hb; omega
      · by_cases he : i = k
        · subst he
          have := hac i hi b hb
          obtain ⟨j, hj⟩ := Int.eq_ofNat_of_zero_le this.1
          exact ⟨j, hj, ih.keep j ((hmk j).2 (.inr ⟨b, hb, hj⟩))⟩
        · exact ih.close i hi (by omega) hon b hb
      · have hkon : on (forN rs l m k (markI l nd (leansI rs l m k l[k]))) k := ih.keep k ((hmk k).2 (.inl hv))
        refine ih.least S (fun j hj => ?_) (fun i hi hik => h2 i hi (by omega)) j hj
        rcases (hmk j).1 hj with h3 | ⟨b, hb, h3⟩
        · exact h1 j h3
        · exact h2 k hkl (by omega) hkon (h1 k hv) b hb j h3
theorem on_rep {k j : Nat} : ¬ on (List.replicate k false) j := by
  unfold on
  rw [List.getD_eq_getElem?_getD, List.getElem?_replicate]
  split <;> simp
/-- The marks of the part that an atom needs. -/
structure Part (n : Nat) (rs : List Rule) (l : List Step) (a : Int) (R : List Bool) : Prop where
  len : R.length = l.length
  has : ∃ i : Nat, byI l a = i ∧ on R i
  close : ∀ (i : Nat) (h : i < l.length), on R i → ∀ b ∈ leansI rs l (knownI n l) i l[i], ∃ j : Nat, byI l b = j ∧ on R j
  least : ∀ S : Nat → Prop, (∀ i : Nat, byI l a = i → S i) → (∀ (i : Nat) (h : i < l.length), on R i → S i → ∀ b ∈ leansI rs l (knownI n l) i l[i], ∀ j : Nat, byI l b = j → S j) → ∀ j, on R j → S j
theorem Runs.part {l : List Step} (h : Runs n rs l) (hP : PrOk n rs) {a : Int} (ha : 0 ≤ byI l a) : Part n rs l a (needI n rs l a) := by
  have hlt := byI_len l a
  obtain ⟨i0, hi0⟩ := Int.eq_ofNat_of_zero_le ha
  have hmk := fun j => markI_on [a] (List.replicate l.length false) j (l := l) (sing_all ⟨ha, by simp; omega⟩)
  have hN := forN_needs (rs := rs) (l := l) (m := knownI n l) (fun i hi b hb => h.acyc hP hi hb) l.length (markI l (List.replicate l.length false) [a]) (Nat.le_refl _) (by rw [markI_len]; simp)
  refine ⟨by rw [needI, hN.len, markI_len]; simp, ⟨i0, hi0, hN.keep i0 ((hmk i0).2 (.inr ⟨a, by simp, hi0⟩))⟩, fun i hi hon b hb => hN.close i hi hi hon b hb, fun S h1 h2 j hj => ?_⟩
  refine hN.least S (fun j hj => ?_) (fun i hi _ => h2 i hi) j hj
  rcases (hmk j).1 hj with h3 | ⟨b, hb, h3⟩
  · exact absurd h3 on_rep
  · have : b = a := by simpa using hb
    subst this
    exact h1 j h3
theorem on_lt {R : List Bool} {j : Nat} (h : on R j) : j < R.length := by
  unfold on at h
  by_cases hj : j < R.length
  · exact hj
  · rw [List.getD_eq_getElem?_getD, List.getElem?_eq_none (by omega)] at h
    cases h
theorem on_at {R : List Bool} {j : Nat} (hj : j < R.length) : on R j ↔ R[j] = true := by
  unfold on
  rw [List.getD_eq_getElem?_getD, List.getElem?_eq_getElem hj]
  rfl
/-- No mark lies behind the step that has the atom. -/
theorem Part.top {l : List Step} (h : Runs n rs l) (hP : PrOk n rs) {a : Int} {R : List Bool} (p : Part n rs l a R) : ∀ j : Nat, on R j → (j : Int) ≤ byI l a :=
  p.least (fun j => (j : Int) ≤ byI l a) (fun i hi => by omega) (fun i hi _ hS b hb j hj => by have := h.acyc hP hi hb; omega)

/-! ### The part holds by itself -/
def rank (l : List Step) (R : List Bool) (i : Nat) : Nat := (partI (l.take i) (R.take i)).length
theorem rank_succ {l : List Step} {R : List Bool} {i : Nat} (hi : i < l.length) (hR : i < R.length) : rank l R (i + 1) = rank l R i + if R[i] = true then 1 else 0 := by
  unfold rank
  rw [partI_succ hi hR, List.length_append]
  split <;> simp
theorem rank_mono {l : List Step} {R : List Bool} (hl : R.length = l.length) : ∀ (j i : Nat), i ≤ j → j ≤ l.length → rank l R i ≤ rank l R j
  | 0, i, h, _ => by rw [Nat.le_zero.1 h]; exact Nat.le_refl _
  | j + 1, i, h, hj => by
    by_cases he : i = j + 1
    · rw [he]; exact Nat.le_refl _
    · have := rank_mono hl j i (by omega) (by omega)
      rw [rank_succ (by omega) (by omega)]
      omega
theorem rank_lt {l : List Step} {R : List Bool} (hl : R.length = l.length) {i j : Nat} (hi : on R i) (hij : i < j) (hj : j ≤ l.length) : rank l R i < rank l R j := by
  have h1 := rank_mono hl j (i + 1) hij hj
  have h2 := on_lt hi
  rw [rank_succ (by omega) h2, if_pos ((on_at h2).1 hi)] at h1
  omega
theorem partI_pre {l : List Step} {R : List Bool} (hl : R.length = l.length) : ∀ (d i : Nat), i + d = l.length → ∃ t, partI l R = partI (l.take i) (R.take i) ++ t
  | 0, i, h => ⟨[], by rw [List.take_of_length_le (by omega), List.take_of_length_le (by omega)]; simp⟩
  | d + 1, i, h => by
    obtain ⟨t, ht⟩ := partI_pre hl d (i + 1) (by omega)
    rw [partI_succ (by omega) (by omega), List.append_assoc] at ht
    exact ⟨_, ht⟩
theorem part_at {l : List Step} {R : List Bool} (hl : R.length = l.length) {i : Nat} (hi : on R i) (hil : i < l.length) : ∃ h : rank l R i < (partI l R).length, (partI l R)[rank l R i] = l[i] := by
  have h2 := on_lt hi
  obtain ⟨t, ht⟩ := partI_pre hl (l.length - (i + 1)) (i + 1) (by omega)
  rw [partI_succ hil h2, if_pos ((on_at h2).1 hi)] at ht
  have h3 : rank l R i < (partI l R).length := by rw [ht]; simp [rank]
  refine ⟨h3, ?_⟩
  have h4 : (partI l R)[rank l R i]? = some l[i] := by
    rw [ht, List.append_assoc]
    show (partI (l.take i) (R.take i) ++ ([l[i]] ++ t))[(partI (l.take i) (R.take i)).length]? = _
    rw [List.getElem?_append_right (Nat.le_refl _), Nat.sub_self]
    rfl
  rw [List.getElem?_eq_getElem h3] at h4
  exact Option.some.inj h4
theorem part_of {l : List Step} {R : List Bool} (hl : R.length = l.length) : ∀ (i : Nat), i ≤ l.length → ∀ t : Nat, t < rank l R i → ∃ j, j < i ∧ on R j ∧ rank l R j = t
  | 0, _, t, ht => by simp [rank, partI] at ht
  | i + 1, hi, t, ht => by
    rw [rank_succ (by omega) (by omega)] at ht
    by_cases h1 : t < rank l R i
    · obtain ⟨j, h2, h3⟩ := part_of hl i (by omega) t h1
      exact ⟨j, by omega, h3⟩
    · split at ht
      · rename_i h2
        exact ⟨i, by omega, (on_at (by omega)).2 h2, by omega⟩
      · omega
theorem part_idx {l : List Step} {R : List Bool} (hl : R.length = l.length) {t : Nat} (ht : t < (partI l R).length) : ∃ j, ∃ hj : j < l.length, on R j ∧ rank l R j = t ∧ (partI l R)[t] = l[j] := by
  have h1 : rank l R l.length = (partI l R).length := by
    unfold rank
    rw [List.take_of_length_le (Nat.le_refl _), List.take_of_length_le (by omega)]
  obtain ⟨j, h2, h3, h4⟩ := part_of hl l.length (Nat.le_refl _) t (by omega)
  obtain ⟨h5, h6⟩ := part_at hl h3 h2
  refine ⟨j, h2, h3, h4, ?_⟩
  subst h4
  exact h6
/-- What is told ahead of step i by the part alone. -/
def stP (n : Nat) (l : List Step) (R : List Bool) (i : Nat) : List Int := (partI (l.take i) (R.take i)).foldl tellI (startI n)
theorem stP_len (l : List Step) (R : List Bool) (i : Nat) : (stP n l R i).length = n := by
  unfold stP
  rw [foldl_tell_len]
  simp [startI]
theorem set_move {m m' : List Int} {U : List Int} (hl : m'.length = m.length) (h : setOpen m U = true) (ho : ∀ a ∈ U, valI m' a = 1) : setOpen m' U = true := by
  obtain ⟨h1, h2, h3⟩ := setOpen_iff.1 h
  exact setOpen_iff.2 ⟨fun a ha => ⟨by rw [hl]; exact (h1 a ha).1, ho a ha⟩, h2, h3⟩
theorem ahead_some {l : List Step} {m : List Int} {k : Nat} {ns : List Int} {v : Int} {b : Int} (hb : b ∈ ns) (h1 : valI m b = v) (h2 : 0 ≤ byI l b) (h3 : byI l b < k) : 0 ≤ aheadI l m k ns v := by
  have h4 := findP_any (fun a => decide (valI m a = v) && decide (0 ≤ byI l a) && decide (byI l a < k)) ns
  have h5 : ns.any (fun a => decide (valI m a = v) && decide (0 ≤ byI l a) && decide (byI l a < k)) = true := List.any_eq_true.2 ⟨b, hb, by simp [h1, h2, h3]⟩
  rw [h5] at h4
  simpa [aheadI] using h4
/-- A step of the part holds, with what the part told ahead. -/
theorem part_step {l : List Step} (h : Runs n rs l) (hP : PrOk n rs) {a : Int} {R : List Bool} (p : Part n rs l a R) {i : Nat} (hi : i < l.length) (hon : on R i)
    (hval : ∀ x : Int, 0 ≤ x → x < n → valI (stP n l R i) x = if (0 ≤ byI l x ∧ byI l x < i) ∧ on R (byI l x).toNat then tellAt l x else 1) : stepOk rs (stP n l R i) l[i] = true := by
  have hs := h i hi
  have hset := stepOk_set hs
  have hlm : (stP n l R i).length = (stI n l i).length := by rw [stP_len, stI_len]
  have hset2 : setOpen (stP n l R i) l[i].atoms = true := set_move hlm hset fun x hx => by
    have h1 := h.atoms hi hx
    rw [hval x h1.1 h1.2, if_neg]
    rintro ⟨⟨_, h3⟩, _⟩
    have := h.uniq hi hx
    omega
  have hlean : ∀ b ∈ leansI rs l (knownI n l) i l[i], 0 ≤ b → b < n → valI (stP n l R i) b = tellAt l b := fun b hb h0 h1 => by
    obtain ⟨j, hj, hjo⟩ := p.close i hi hon b hb
    have hac := h.acyc hP hi hb
    rw [hval b h0 h1, if_pos ⟨hac, by rw [hj]; exact hjo⟩]
  by_cases h0 : 0 ≤ l[i].rule
  · obtain ⟨hr, h1, h2, h3⟩ := h.fires hP hi h0
    have hrk := (hP.rule _ (List.getElem_mem hr)).1
    obtain ⟨k, hk⟩ := Int.eq_ofNat_of_zero_le h0
    have hkl : k < rs.length := by omega
    have hle : leansI rs l (knownI n l) i l[i] = rs[l[i].rule.toNat].pos ++ rs[l[i].rule.toNat].neg := leansI_rule h0 hr
    have hke : rs[l[i].rule.toNat] = rs[k] := by simp [hk]
    rw [hke] at h1 h2 h3 hrk hle
    rw [stepOk_byrule hk hkl, hset2, decide_eq_true h1, Bool.true_and, Bool.true_and]
    unfold firesB
    rw [Bool.and_eq_true, areB_iff, areB_iff]
    refine ⟨fun b hb => ?_, fun b hb => ?_⟩
    · rw [hlean b (by rw [hle]; exact List.mem_append.2 (.inl hb)) (hrk.2.1 b hb).1 (hrk.2.1 b hb).2]
      exact (h2 b hb).2
    · rw [hlean b (by rw [hle]; exact List.mem_append.2 (.inr hb)) (hrk.2.2 b hb).1 (hrk.2.2 b hb).2]
      exact (h3 b hb).2
  · obtain ⟨h1, h2⟩ := stepOk_unf hs (by omega)
    rw [stepOk_byset h1, hset2, Bool.true_and]
    unfold unfOk at h2 ⊢
    rw [List.all_eq_true] at h2 ⊢
    intro r hr
    have h3 := h2 r hr
    obtain ⟨x, hx, rfl⟩ := List.getElem_of_mem hr
    have hrk := (hP.rule _ (List.getElem_mem hx)).1
    rw [loose_tied hx] at h3 ⊢
    by_cases hu : rs[x].head ∈ l[i].atoms
    · rw [decide_eq_true hu, Bool.true_and, Bool.not_not] at h3 ⊢
      rw [tiedB_at hx] at h3 ⊢
      cases hmt : rs[x].pos.any (fun p => decide (p ∈ l[i].atoms)) with
      | true => simp
      | false =>
        rw [hmt, Bool.or_false] at h3
        rw [Bool.or_false]
        have hmem : ∀ b ∈ reasonI l (knownI n l) i l[i].atoms rs[x], b ∈ leansI rs l (knownI n l) i l[i] := fun b hb => by
          rw [leansI_set (by omega), List.mem_flatMap]
          refine ⟨_, hu, ?_⟩
          rw [atomR, List.mem_flatMap]
          exact ⟨(x : Int), ofI_get hx, by rw [reasR_at hx]; exact hb⟩
        have hkv : ∀ b : Int, 0 ≤ b → b < n → ∀ v, v ≠ 1 → valI (stI n l i) b = v → valI (knownI n l) b = v ∧ 0 ≤ byI l b ∧ byI l b < i := fun b hb0 hb1 v hv hbv => by
          rw [h.val i (by omega) b hb0 hb1] at hbv
          by_cases h5 : 0 ≤ byI l b ∧ byI l b < i
          · rw [if_pos h5] at hbv
            rw [known_val hb0 hb1, if_pos h5.1]
            exact ⟨hbv, h5⟩
          · rw [if_neg h5] at hbv; exact absurd hbv.symm hv
        have hre : reasonI l (knownI n l) i l[i].atoms rs[x] = if 0 ≤ aheadI l (knownI n l) i rs[x].pos 0 then pickA rs[x].pos (aheadI l (knownI n l) i rs[x].pos 0) else pickA rs[x].neg (aheadI l (knownI n l) i rs[x].neg 2) := by
          rw [reasonI, if_neg (by rw [hmt]; decide)]
        have htk : ∀ b : Int, 0 ≤ b → b < n → 0 ≤ byI l b → valI (knownI n l) b = tellAt l b := fun b hb0 hb1 hb => by rw [known_val hb0 hb1, if_pos hb]
        by_cases hp : 0 ≤ aheadI l (knownI n l) i rs[x].pos 0
        · obtain ⟨y, hy, _, h5, h6, h7, h8⟩ := aheadI_mem hp
          have hyr := hrk.2.1 _ (List.getElem_mem hy)
          have h9 := hlean _ (hmem rs[x].pos[y] (by rw [hre, if_pos hp, h5]; simp)) hyr.1 hyr.2
          rw [← htk _ hyr.1 hyr.2 h7, h6] at h9
          have : hasB (stP n l R i) rs[x].pos 0 = true := hasB_iff.2 ⟨_, List.getElem_mem hy, h9⟩
          rw [this, Bool.true_or]
        · have hn : hasB (stI n l i) rs[x].neg 2 = true := by
            rw [Bool.or_eq_true] at h3
            rcases h3 with h3 | h3
            · exfalso
              obtain ⟨b, hb, hbv⟩ := hasB_iff.1 h3
              have hbr := hrk.2.1 b hb
              obtain ⟨h5, h6, h7⟩ := hkv b hbr.1 hbr.2 0 (by decide) hbv
              exact hp (ahead_some hb h5 h6 h7)
            · exact h3
          obtain ⟨b, hb, hbv⟩ := hasB_iff.1 hn
          have hbr := hrk.2.2 b hb
          obtain ⟨h5, h6, h7⟩ := hkv b hbr.1 hbr.2 2 (by decide) hbv
          have hq := ahead_some hb h5 h6 h7
          obtain ⟨y, hy, _, h5, h6, h7, h8⟩ := aheadI_mem hq
          have hyr := hrk.2.2 _ (List.getElem_mem hy)
          have h9 := hlean _ (hmem rs[x].neg[y] (by rw [hre, if_neg hp, h5]; simp)) hyr.1 hyr.2
          rw [← htk _ hyr.1 hyr.2 h7, h6] at h9
          have : hasB (stP n l R i) rs[x].neg 2 = true := hasB_iff.2 ⟨_, List.getElem_mem hy, h9⟩
          rw [this, Bool.or_true]
    · rw [decide_eq_false hu]
      rfl
theorem part_val {l : List Step} (h : Runs n rs l) (hP : PrOk n rs) {a : Int} {R : List Bool} (p : Part n rs l a R) : ∀ (i : Nat), i ≤ l.length → ∀ x : Int, 0 ≤ x → x < n → valI (stP n l R i) x = if (0 ≤ byI l x ∧ byI l x < i) ∧ on R (byI l x).toNat then tellAt l x else 1
  | 0, _, x, h0, h1 => by
    rw [if_neg (by omega)]
    exact startI_val h0 h1
  | i + 1, hi, x, h0, h1 => by
    have hil : i < l.length := by omega
    have hiR : i < R.length := by rw [p.len]; exact hil
    have ih := fun x h0 h1 => part_val h hP p i (by omega) x h0 h1
    by_cases hon : on R i
    · have hok := part_step h hP p hil hon ih
      have he : stP n l R (i + 1) = tellI (stP n l R i) l[i] := by
        unfold stP
        rw [partI_succ hil hiR, if_pos ((on_at hiR).1 hon), List.foldl_append]
        rfl
      rw [he, tell_val (stepOk_set hok) h0 (by rw [stP_len]; exact h1), ih x h0 h1]
      by_cases hm : x ∈ l[i].atoms
      · have h2 := h.uniq hil hm
        have h3 : (0 ≤ byI l x ∧ byI l x < ((i + 1 : Nat) : Int)) ∧ on R (byI l x).toNat := ⟨by omega, by rw [h2]; exact hon⟩
        rw [if_pos hm, if_pos h3, tellAt_at h2 hil]
        rfl
      · rw [if_neg hm]
        have h2 : byI l x ≠ i := fun hh => hm (byI_mem hh).2.1
        by_cases h3 : (0 ≤ byI l x ∧ byI l x < (i : Int)) ∧ on R (byI l x).toNat
        · have h4 : (0 ≤ byI l x ∧ byI l x < ((i + 1 : Nat) : Int)) ∧ on R (byI l x).toNat := ⟨by omega, h3.2⟩
          rw [if_pos h3, if_pos h4]
        · have h4 : ¬ ((0 ≤ byI l x ∧ byI l x < ((i + 1 : Nat) : Int)) ∧ on R (byI l x).toNat) := fun hh => h3 ⟨by omega, hh.2⟩
          rw [if_neg h3, if_neg h4]
    · have he : stP n l R (i + 1) = stP n l R i := by
        unfold stP
        rw [partI_succ hil hiR, if_neg (fun hh => hon ((on_at hiR).2 hh)), List.append_nil]
      rw [he, ih x h0 h1]
      by_cases h3 : (0 ≤ byI l x ∧ byI l x < (i : Int)) ∧ on R (byI l x).toNat
      · have h4 : (0 ≤ byI l x ∧ byI l x < ((i + 1 : Nat) : Int)) ∧ on R (byI l x).toNat := ⟨by omega, h3.2⟩
        rw [if_pos h3, if_pos h4]
      · have h4 : ¬ ((0 ≤ byI l x ∧ byI l x < ((i + 1 : Nat) : Int)) ∧ on R (byI l x).toNat) := fun hh => by
          by_cases h5 : byI l x = i
          · have := hh.2
            rw [h5] at this
            exact hon this
          · exact h3 ⟨by omega, hh.2⟩
        rw [if_neg h3, if_neg h4]
theorem stP_stI {l : List Step} {R : List Bool} (hl : R.length = l.length) {i : Nat} (hi : i ≤ l.length) : stI n (partI l R) (rank l R i) = stP n l R i := by
  obtain ⟨t, ht⟩ := partI_pre hl (l.length - i) i (by omega)
  unfold stI stP rank
  rw [ht, List.take_left]
/-- The part holds by itself. -/
theorem part_runs {l : List Step} (h : Runs n rs l) (hP : PrOk n rs) {a : Int} {R : List Bool} (p : Part n rs l a R) : Runs n rs (partI l R) := fun t ht => by
  obtain ⟨j, hj, hon, hr, he⟩ := part_idx p.len ht
  subst hr
  rw [he, stP_stI p.len (by omega)]
  exact part_step h hP p hj hon (part_val h hP p j (by omega))
theorem part_by {l : List Step} (h : Runs n rs l) (hP : PrOk n rs) {a : Int} {R : List Bool} (p : Part n rs l a R) {b : Int} {i : Nat} (hb : byI l b = i) (hon : on R i) : byI (partI l R) b = rank l R i := by
  obtain ⟨hi, hm, _⟩ := byI_mem hb
  obtain ⟨h1, h2⟩ := part_at p.len hon hi
  exact (part_runs h hP p).uniq h1 (by rw [h2]; exact hm)
theorem part_by_not {l : List Step} (h : Runs n rs l) {a : Int} {R : List Bool} (p : Part n rs l a R) {b : Int} (hb : ∀ i : Nat, byI l b = i → ¬ on R i) : byI (partI l R) b < 0 := by
  by_cases h0 : 0 ≤ byI (partI l R) b
  · exfalso
    obtain ⟨t, ht⟩ := Int.eq_ofNat_of_zero_le h0
    obtain ⟨htl, hm, _⟩ := byI_mem ht
    obtain ⟨j, hj, hon, _, he⟩ := part_idx p.len htl
    rw [he] at hm
    exact hb j (h.uniq hj hm) hon
  · omega
end
end Go.Proofs.Ytmkgechdfimfnaa.Pl
