/-
  Plain laws: the least set of rules without Neg; a chain of counters and a queue comes to it.
  No condition but the premises of each theorem.
-/
import Derived.Test.YtnmkffkalnkbbaaPl
namespace Go.Proofs.Ytnmkffkalnkbbaa.Pl

/-- a lies in each set that rules are closed under. -/
def Der (rs : List Rule) (a : Int) : Prop := ∀ S : Int → Prop, (∀ r ∈ rs, (∀ p ∈ r.pos, S p) → S r.head) → S a
theorem Der.mk {rs : List Rule} {r : Rule} (hr : r ∈ rs) (h : ∀ p ∈ r.pos, Der rs p) : Der rs r.head := fun S hS => hS r hr fun p hp => h p hp S hS
theorem Der.mono {rs rs' : List Rule} (h : ∀ r ∈ rs, r ∈ rs') {a : Int} (ha : Der rs a) : Der rs' a := fun S hS => ha S fun r hr => hS r (h r hr)

/-- Rules over n atoms. -/
def RuleOk (n : Nat) (r : Rule) : Prop := (0 ≤ r.head ∧ r.head < n) ∧ (∀ p ∈ r.pos, 0 ≤ p ∧ p < n) ∧ (∀ p ∈ r.neg, 0 ≤ p ∧ p < n)

structure IsLeast (n : Nat) (rs : List Rule) (l : List Bool) : Prop where
  len : l.length = n
  closed : ∀ r ∈ rs, allB l r.pos = true → atB l r.head = true
  sound : ∀ a : Nat, a < n → atB l a = true → Der rs a

theorem atB_nat (l : List Bool) (a : Nat) : atB l (a : Int) = l.getD a false := rfl
theorem allB_iff {l : List Bool} {ns : List Int} : allB l ns = true ↔ ∀ p ∈ ns, atB l p = true := by simp [allB]
theorem anyB_iff {l : List Bool} {ns : List Int} : anyB l ns = true ↔ ∃ p ∈ ns, atB l p = true := by simp [anyB]

theorem IsLeast.iff {n : Nat} {rs : List Rule} {l : List Bool} (h : IsLeast n rs l) (hr : ∀ r ∈ rs, RuleOk n r) {a : Nat} (ha : a < n) : atB l a = true ↔ Der rs a := by
  refine ⟨h.sound a ha, fun hd => ?_⟩
  have := hd (fun x => 0 ≤ x ∧ x < n ∧ atB l x = true) (fun r hrs hp => ⟨(hr r hrs).1.1, (hr r hrs).1.2, h.closed r hrs (allB_iff.2 fun p hpp => (hp p hpp).2.2)⟩)
  exact this.2.2
theorem ext_at {l l' : List Bool} (hl : l.length = l'.length) (h : ∀ a : Nat, a < l.length → atB l a = atB l' a) : l = l' := by
  refine List.ext_getElem hl fun i h1 h2 => ?_
  have := h i h1
  simpa [atB_nat, h1, h2] using this
theorem IsLeast.unique {n : Nat} {rs : List Rule} {l l' : List Bool} (h : IsLeast n rs l) (h' : IsLeast n rs l') (hr : ∀ r ∈ rs, RuleOk n r) : l = l' := by
  refine ext_at (by rw [h.len, h'.len]) fun a ha => ?_
  rw [h.len] at ha
  rw [Bool.eq_iff_iff, h.iff hr ha, h'.iff hr ha]

/-! ### The least set, reckoned -/
def stepB (n : Nat) (rs : List Rule) (l : List Bool) : List Bool := (List.range n).map fun (i : Nat) => atB l i || rs.any fun r => decide (r.head = i) && allB l r.pos
def iterB (n : Nat) (rs : List Rule) : Nat → List Bool
  | 0 => List.replicate n false
  | k + 1 => stepB n rs (iterB n rs k)
def leastB (n : Nat) (rs : List Rule) : List Bool := iterB n rs n

theorem stepB_at {n : Nat} {rs : List Rule} {l : List Bool} {a : Nat} (ha : a < n) : atB (stepB n rs l) a = (atB l a || rs.any fun r => decide (r.head = a) && allB l r.pos) := by
  simp [stepB, atB_nat, ha]
theorem iterB_len (n : Nat) (rs : List Rule) (k : Nat) : (iterB n rs k).length = n := by
  cases k <;> simp [iterB, stepB]
theorem atB_lt {l : List Bool} {a : Nat} (h : atB l a = true) : a < l.length := by
  rcases Nat.lt_or_ge a l.length with hh | hh
  · exact hh
  · simp [atB_nat, hh] at h
theorem stepB_mono {n : Nat} {rs : List Rule} {l : List Bool} (hl : l.length = n) {a : Nat} (h : atB l a = true) : atB (stepB n rs l) a = true := by
  rw [stepB_at (by rw [← hl]; exact atB_lt h), h]
  rfl
theorem iterB_sound (n : Nat) (rs : List Rule) (hr : ∀ r ∈ rs, RuleOk n r) : ∀ (k a : Nat), atB (iterB n rs k) a = true → Der rs a
  | 0, a, h => by
    have := atB_lt h
    simp [iterB] at this
    simp [iterB, atB_nat, this] at h
  | k + 1, a, h => by
    have hlt := atB_lt h
    rw [iterB_len] at hlt
    unfold iterB at h
    rw [stepB_at hlt, Bool.or_eq_true, List.any_eq_true] at h
    rcases h with h | ⟨r, hrs, h⟩
    · exact iterB_sound n rs hr k a h
    · simp only [Bool.and_eq_true, decide_eq_true_eq] at h
      rw [← h.1]
      refine Der.mk hrs fun p hp => ?_
      have h0 := (hr r hrs).2.1 p hp
      have := iterB_sound n rs hr k p.toNat (by rw [Int.toNat_of_nonneg h0.1]; exact allB_iff.1 h.2 p hp)
      rwa [Int.toNat_of_nonneg h0.1] at this
def cntB (l : List Bool) : Nat := l.countP id
theorem cntB_le (l : List Bool) : cntB l ≤ l.length := List.countP_le_length
theorem cnt_lt {l l' : List Bool} (hl : l.length = l'.length) (hm : ∀ a : Nat, atB l a = true → atB l' a = true) (hne : l ≠ l') : cntB l < cntB l' := by
  induction l generalizing l' with
  | nil =>
    cases l' with
    | nil => exact absurd rfl hne
    | cons b l' => simp at hl
  | cons b l ih =>
    cases l' with
    | nil => simp at hl
    | cons b' l' =>
      have h0 : b = true → b' = true := fun hb => hm 0 hb
      have hs : ∀ a : Nat, atB l a = true → atB l' a = true := fun a ha => hm (a + 1) ha
      have hle : cntB l ≤ cntB l' := by
        by_cases he : l = l'
        · rw [he]; exact Nat.le_refl _
        · exact Nat.le_of_lt (ih (by simpa using hl) hs he)
      unfold cntB at *
      simp only [List.countP_cons, id]
      by_cases he : l = l'
      · subst he
        cases b <;> cases b' <;> simp_all
      · have := ih (by simpa using hl) hs he
        cases b <;> cases b' <;> simp_all <;> omega
theorem iterB_grow (n : Nat) (rs : List Rule) : ∀ k, stepB n rs (iterB n rs k) = iterB n rs k ∨ k < cntB (iterB n rs (k + 1))
  | 0 => by
    by_cases h : stepB n rs (iterB n rs 0) = iterB n rs 0
    · exact .inl h
    · refine .inr (Nat.lt_of_le_of_lt (Nat.zero_le _) (cnt_lt (l := iterB n rs 0) (l' := iterB n rs 1) (by rw [iterB_len, iterB_len]) (fun a ha => stepB_mono (iterB_len n rs 0) ha) (Ne.symm h)))
  | k + 1 => by
    by_cases h : stepB n rs (iterB n rs (k + 1)) = iterB n rs (k + 1)
    · exact .inl h
    · rcases iterB_grow n rs k with hk | hk
      · exact absurd (by show stepB n rs (stepB n rs (iterB n rs k)) = stepB n rs (iterB n rs k); rw [hk]; exact hk) h
      · have := cnt_lt (l := iterB n rs (k + 1)) (l' := iterB n rs (k + 1 + 1)) (by rw [iterB_len, iterB_len]) (fun a ha => stepB_mono (iterB_len n rs (k + 1)) ha) (Ne.symm h)
        exact .inr (by omega)
theorem leastB_fix (n : Nat) (rs : List Rule) : stepB n rs (leastB n rs) = leastB n rs := by
  rcases iterB_grow n rs n with h | h
  · exact h
  · have := cntB_le (iterB n rs (n + 1))
    rw [iterB_len] at this
    omega
theorem leastB_is (n : Nat) (rs : List Rule) (hr : ∀ r ∈ rs, RuleOk n r) : IsLeast n rs (leastB n rs) := by
  refine ⟨iterB_len _ _ _, fun r hrs h => ?_, fun a _ h => iterB_sound n rs hr n a h⟩
  have h0 := (hr r hrs).1
  have hh : ((r.head.toNat : Nat) : Int) = r.head := Int.toNat_of_nonneg h0.1
  rw [← hh, ← leastB_fix, stepB_at (by omega)]
  rw [Bool.or_eq_true, List.any_eq_true]
  exact .inr ⟨r, hrs, by simp [hh, h]⟩
theorem leastB_len (n : Nat) (rs : List Rule) : (leastB n rs).length = n := iterB_len _ _ _

/-! ### The chain comes to the least set -/
/-- Which rules wait for an atom, each as often as it names it; rules from number i on. -/
def whoOf (p : Int) : Nat → List Rule → List Int
  | _, [] => []
  | i, r :: rs => List.replicate (r.pos.count p) (i : Int) ++ whoOf p (i + 1) rs
theorem whoOf_snoc (p : Int) (r : Rule) : ∀ (rs : List Rule) (i : Nat), whoOf p i (rs ++ [r]) = whoOf p i rs ++ List.replicate (r.pos.count p) ((i + rs.length : Nat) : Int)
  | [], i => by simp [whoOf]
  | x :: rs, i => by
    simp only [List.cons_append, whoOf, whoOf_snoc p r rs (i + 1), List.append_assoc, List.length_cons]
    rw [show i + 1 + rs.length = i + (rs.length + 1) from by omega]
theorem whoOf_mem {p : Int} {k : Int} : ∀ {rs : List Rule} {i : Nat}, k ∈ whoOf p i rs → (i : Int) ≤ k ∧ k < (i : Int) + rs.length
  | [], i, h => by cases h
  | r :: rs, i, h => by
    simp only [whoOf, List.mem_append] at h
    rcases h with h | h
    · have := (List.mem_replicate.1 h).2
      simp; omega
    · have := whoOf_mem h
      simp; omega
theorem whoOf_count (p : Int) : ∀ (rs : List Rule) (i j : Nat) (r : Rule), rs[j]? = some r → (whoOf p i rs).count ((i + j : Nat) : Int) = r.pos.count p
  | [], i, j, r, h => by simp at h
  | x :: rs, i, j, r, h => by
    simp only [whoOf, List.count_append]
    cases j with
    | zero =>
      obtain rfl : x = r := by simpa using h
      have h0 : (whoOf p (i + 1) rs).count ((i + 0 : Nat) : Int) = 0 := List.count_eq_zero.2 fun hm => by have := whoOf_mem hm; omega
      rw [h0]
      simp
    | succ j =>
      have := whoOf_count p rs (i + 1) j r (by simpa using h)
      rw [show i + 1 + j = i + (j + 1) from by omega] at this
      rw [this]
      have h0 : (List.replicate (x.pos.count p) (i : Int)).count ((i + (j + 1) : Nat) : Int) = 0 := List.count_eq_zero.2 fun hm => by have := (List.mem_replicate.1 hm).2; omega
      rw [h0]
      omega

/-- What is so of a chain; D: the atoms that were handed on to their rules. -/
structure Inv (n : Nat) (rs : List Rule) (D : Int → Bool) (c : Ch) : Prop where
  olen : c.out.length = n
  llen : c.left.length = rs.length
  heads : c.heads = rs.map (·.head)
  wlen : c.who.length = n
  who : ∀ p : Nat, p < n → c.who.getD p [] = whoOf p 0 rs
  left : ∀ i r, rs[i]? = some r → c.left.getD i 0 = (r.pos.countP fun p => !D p : Nat)
  zero : ∀ i r, rs[i]? = some r → c.left.getD i 0 = 0 → atB c.out r.head = true
  outs : ∀ a : Nat, a < n → (atB c.out a = true ↔ (D a = true ∨ (a : Int) ∈ c.queue))
  disj : ∀ a ∈ c.queue, D a = false
  nodup : c.queue.Nodup
  qin : ∀ a ∈ c.queue, 0 ≤ a ∧ a < n
  sound : ∀ a : Nat, a < n → atB c.out a = true → Der rs a

theorem Inv.done {n : Nat} {rs : List Rule} {D : Int → Bool} {c : Ch} (h : Inv n rs D c) (hr : ∀ r ∈ rs, RuleOk n r) (hq : c.queue = []) : c.out = leastB n rs := by
  refine IsLeast.unique (n := n) (rs := rs) ⟨h.olen, fun r hrs ha => ?_, h.sound⟩ (leastB_is n rs hr) hr
  obtain ⟨i, hi⟩ := List.getElem?_of_mem hrs
  refine h.zero i r hi ?_
  rw [h.left i r hi]
  have : (r.pos.countP fun p => !D p) = 0 := by
    rw [List.countP_eq_zero]
    intro p hp
    have hp0 := (hr r hrs).2.1 p hp
    have hat := allB_iff.1 ha p hp
    have := (h.outs p.toNat (by omega)).1 (by rw [Int.toNat_of_nonneg hp0.1]; exact hat)
    rw [Int.toNat_of_nonneg hp0.1, hq] at this
    simpa using this
  rw [this]
  rfl
theorem nodup_nat {n : Nat} : ∀ {l : List Nat}, l.Nodup → (∀ a ∈ l, a < n) → l.length ≤ n := by
  induction n with
  | zero =>
    intro l _ hb
    cases l with
    | nil => simp
    | cons a l => exact absurd (hb a (by simp)) (by omega)
  | succ n ih =>
    intro l hn hb
    have h1 := ih (l := l.filter fun a => decide (a ≠ n)) (hn.filter _) (fun a ha => by
      have := List.mem_filter.1 ha
      have h2 := hb a this.1
      have h3 : a ≠ n := by simpa using this.2
      omega)
    have h2 := List.length_eq_countP_add_countP (fun a => decide (a ≠ n)) (l := l)
    rw [List.countP_eq_length_filter] at h2
    have h3 : (l.countP fun a => decide ¬(decide (a ≠ n) = true)) ≤ 1 := by
      have h4 := List.nodup_iff_count.1 hn n
      have h5 : (l.countP fun a => decide ¬(decide (a ≠ n) = true)) = l.count n := by
        unfold List.count
        refine List.countP_congr fun x _ => ?_
        simp
      omega
    omega
theorem nodup_le {l : List Int} {n : Nat} (h : l.Nodup) (hb : ∀ a ∈ l, 0 ≤ a ∧ a < n) : l.length ≤ n := by
  have h1 : (l.map Int.toNat).Nodup := by
    refine List.nodup_iff_pairwise_ne.2 (List.pairwise_map.2 ?_)
    exact (List.nodup_iff_pairwise_ne.1 h).imp_of_mem fun {a b} ha hb' hne => by
      have := hb a ha; have := hb b hb'; omega
  have := nodup_nat (n := n) h1 (fun x hx => by
    obtain ⟨a, ha, rfl⟩ := List.mem_map.1 hx
    have := hb a ha
    omega)
  simpa using this

/-! ### Building the chain -/
def waitAll (c : Ch) (n : Int) (l : List Int) : Ch := l.foldl (fun c p => c.wait n p.toNat) c
theorem waitAll_snoc (c : Ch) (n : Int) (l : List Int) (p : Int) : waitAll c n (l ++ [p]) = (waitAll c n l).wait n p.toNat := by simp [waitAll]
theorem waitAll_take (c : Ch) (n : Int) (l : List Int) (k : Nat) (h : k < l.length) : waitAll c n (l.take (k + 1)) = (waitAll c n (l.take k)).wait n (l[k]).toNat := by
  rw [List.take_succ_eq_append_getElem h, waitAll_snoc]
theorem waitAll_same (n : Int) : ∀ (l : List Int) (c : Ch), (waitAll c n l).out = c.out ∧ (waitAll c n l).left = c.left ∧ (waitAll c n l).heads = c.heads ∧ (waitAll c n l).queue = c.queue ∧ (waitAll c n l).who.length = c.who.length
  | [], c => ⟨rfl, rfl, rfl, rfl, rfl⟩
  | p :: l, c => by
    have := waitAll_same n l (c.wait n p.toNat)
    simp only [waitAll, List.foldl_cons] at this ⊢
    simpa [Ch.wait] using this
theorem waitAll_who (n : Int) : ∀ (l : List Int) (c : Ch) (p : Nat), p < c.who.length → (∀ x ∈ l, 0 ≤ x) → (waitAll c n l).who.getD p [] = c.who.getD p [] ++ List.replicate (l.count (p : Int)) n
  | [], c, p, _, _ => by simp [waitAll]
  | x :: l, c, p, hp, hx => by
    have h0 := hx x (by simp)
    have := waitAll_who n l (c.wait n x.toNat) p (by simpa [Ch.wait] using hp) (fun y hy => hx y (by simp [hy]))
    simp only [waitAll, List.foldl_cons] at this ⊢
    rw [this]
    by_cases hxp : x = (p : Int)
    · subst hxp
      simp [Ch.wait, hp, List.replicate_succ]
    · have hne : x.toNat ≠ p := by omega
      simp only [Ch.wait, List.getD_eq_getElem?_getD, List.getElem?_set_ne hne]
      rw [List.count_cons_of_ne (by simpa using hxp)]
theorem follow_same (c : Ch) (a : Nat) : (c.follow a).left = c.left ∧ (c.follow a).heads = c.heads ∧ (c.follow a).who = c.who ∧ (c.follow a).out.length = c.out.length := by
  unfold Ch.follow
  split <;> simp
theorem follow_out (c : Ch) {a : Nat} (ha : a < c.out.length) (x : Nat) : atB (c.follow a).out x = (atB c.out x || decide (x = a)) := by
  unfold Ch.follow
  split
  · rename_i h
    by_cases hx : x = a
    · subst hx; rw [atB_nat, h]; rfl
    · simp [hx]
  · by_cases hx : x = a
    · subst hx; simp [atB_nat, ha]
    · simp only [atB_nat, List.getD_eq_getElem?_getD, List.getElem?_set_ne (Ne.symm hx)]
      simp [hx]
theorem follow_queue (c : Ch) (a : Nat) : (c.follow a).queue = if atB c.out a then c.queue else c.queue ++ [(a : Int)] := by
  unfold Ch.follow
  rw [atB_nat]
  split <;> rfl

/-- What is so of a chain in the midst of things: the counters are L, the rules that X tells of may wait without need. -/
structure IG (n : Nat) (rs : List Rule) (D : Int → Bool) (L : Nat → Int) (X : Nat → Prop) (c : Ch) : Prop where
  olen : c.out.length = n
  llen : c.left.length = rs.length
  heads : c.heads = rs.map (·.head)
  wlen : c.who.length = n
  who : ∀ p : Nat, p < n → c.who.getD p [] = whoOf p 0 rs
  left : ∀ i, i < rs.length → c.left.getD i 0 = L i
  zero : ∀ i r, rs[i]? = some r → ¬ X i → L i = 0 → atB c.out r.head = true
  outs : ∀ a : Nat, a < n → (atB c.out a = true ↔ (D a = true ∨ (a : Int) ∈ c.queue))
  disj : ∀ a ∈ c.queue, D a = false
  nodup : c.queue.Nodup
  qin : ∀ a ∈ c.queue, 0 ≤ a ∧ a < n
  sound : ∀ a : Nat, a < n → atB c.out a = true → Der rs a

def Lc (rs : List Rule) (D : Int → Bool) (i : Nat) : Int := match rs[i]? with | some r => ((r.pos.countP fun p => !D p : Nat) : Int) | none => 0
theorem Inv.ig {n : Nat} {rs : List Rule} {D : Int → Bool} {c : Ch} (h : Inv n rs D c) : IG n rs D (Lc rs D) (fun _ => False) c :=
  ⟨h.olen, h.llen, h.heads, h.wlen, h.who, fun i hi => by rw [h.left i rs[i] (List.getElem?_eq_getElem hi)]; simp [Lc, hi],
    fun i r hr _ hz => h.zero i r hr (by rw [h.left i r hr]; simpa [Lc, hr] using hz), h.outs, h.disj, h.nodup, h.qin, h.sound⟩
theorem IG.inv {n : Nat} {rs : List Rule} {D : Int → Bool} {c : Ch} (h : IG n rs D (Lc rs D) (fun _ => False) c) : Inv n rs D c :=
  ⟨h.olen, h.llen, h.heads, h.wlen, h.who, fun i r hr => by rw [h.left i (List.getElem?_eq_some_iff.1 hr).1]; simp [Lc, hr],
    fun i r hr hz => h.zero i r hr (fun hh => hh) (by rw [← h.left i (List.getElem?_eq_some_iff.1 hr).1]; exact hz), h.outs, h.disj, h.nodup, h.qin, h.sound⟩
theorem IG.follow {n : Nat} {rs : List Rule} {D : Int → Bool} {L : Nat → Int} {X : Nat → Prop} {c : Ch} (h : IG n rs D L X c) {a : Nat} (ha : a < n) (hd : Der rs a) (X' : Nat → Prop) (hX : ∀ (i : Nat) (r : Rule), rs[i]? = some r → ¬ X' i → X i → r.head = (a : Int)) : IG n rs D L X' (c.follow a) := by
  have hal : a < c.out.length := by rw [h.olen]; exact ha
  obtain ⟨e1, e2, e3, e4⟩ := follow_same c a
  refine ⟨by rw [e4, h.olen], by rw [e1, h.llen], by rw [e2, h.heads], by rw [e3, h.wlen], by rw [e3]; exact h.who, by rw [e1]; exact h.left, fun i r hr hx hz => ?_, fun x hx => ?_, ?_, ?_, ?_, fun x hx hxa => ?_⟩
  · by_cases hxi : X i
    · rw [hX i r hr hx hxi, follow_out c hal]
      simp
    · have := h.zero i r hr hxi hz
      by_cases h0 : 0 ≤ r.head
      · rw [← Int.toNat_of_nonneg h0] at this ⊢
        rw [follow_out c hal, this]
        rfl
      · have h1 : r.head.toNat = 0 := by omega
        unfold atB at this ⊢
        rw [h1] at this ⊢
        have := follow_out c hal 0
        rw [atB_nat, atB_nat] at this
        rw [this]
        simp_all
  · rw [follow_out c hal, follow_queue]
    by_cases hat : atB c.out a = true
    · rw [if_pos hat, Bool.or_eq_true, h.outs x hx]
      constructor
      · rintro (hh | hh)
        · exact hh
        · have : x = a := by simpa using hh
          subst this
          exact (h.outs x hx).1 hat
      · exact .inl
    · rw [if_neg hat, Bool.or_eq_true, h.outs x hx]
      simp only [List.mem_append, List.mem_singleton, decide_eq_true_eq]
      constructor
      · rintro ((hh | hh) | hh)
        · exact .inl hh
        · exact .inr (.inl hh)
        · exact .inr (.inr (by rw [hh]))
      · rintro (hh | hh | hh)
        · exact .inl (.inl hh)
        · exact .inl (.inr hh)
        · exact .inr (by omega)
  · rw [follow_queue]
    by_cases hat : atB c.out a = true
    · rw [if_pos hat]; exact h.disj
    · rw [if_neg hat]
      intro x hx
      rcases List.mem_append.1 hx with hx | hx
      · exact h.disj x hx
      · have : x = (a : Int) := by simpa using hx
        subst this
        cases hD : D (a : Int) with
        | false => rfl
        | true => exact absurd ((h.outs a ha).2 (.inl hD)) hat
  · rw [follow_queue]
    by_cases hat : atB c.out a = true
    · rw [if_pos hat]; exact h.nodup
    · rw [if_neg hat]
      refine List.nodup_append.2 ⟨h.nodup, by simp, fun x hx y hy => ?_⟩
      have : y = (a : Int) := by simpa using hy
      subst this
      intro he
      subst he
      exact hat ((h.outs a ha).2 (.inr hx))
  · rw [follow_queue]
    by_cases hat : atB c.out a = true
    · rw [if_pos hat]; exact h.qin
    · rw [if_neg hat]
      intro x hx
      rcases List.mem_append.1 hx with hx | hx
      · exact h.qin x hx
      · have : x = (a : Int) := by simpa using hx
        subst this
        omega
  · rw [follow_out c hal, Bool.or_eq_true] at hxa
    rcases hxa with hxa | hxa
    · exact h.sound x hx hxa
    · have : x = a := by simpa using hxa
      subst this
      exact hd
theorem IG.ext {n : Nat} {rs : List Rule} {D : Int → Bool} {L L' : Nat → Int} {X : Nat → Prop} {c : Ch} (h : IG n rs D L X c) (hL : ∀ i, i < rs.length → L i = L' i) : IG n rs D L' X c :=
  ⟨h.olen, h.llen, h.heads, h.wlen, h.who, fun i hi => (h.left i hi).trans (hL i hi), fun i r hr hx hz => h.zero i r hr hx ((hL i (List.getElem?_eq_some_iff.1 hr).1).trans hz), h.outs, h.disj, h.nodup, h.qin, h.sound⟩

theorem Lc_app (rs : List Rule) (r : Rule) (D : Int → Bool) {i : Nat} (h : i < rs.length) : Lc (rs ++ [r]) D i = Lc rs D i := by
  unfold Lc
  rw [List.getElem?_append_left h]

def noD : Int → Bool := fun _ => false
theorem Inv.start (n : Nat) : Inv n [] noD (Ch.start n) := by
  refine ⟨by simp [Ch.start], by simp [Ch.start], by simp [Ch.start], by simp [Ch.start], fun p hp => by simp [Ch.start, whoOf, hp], fun i r hr => by simp at hr, fun i r hr => by simp at hr, fun a ha => ?_, fun a ha => by simp [Ch.start] at ha, by simp [Ch.start], fun a ha => by simp [Ch.start] at ha, fun a ha hh => ?_⟩
  · simp [Ch.start, atB_nat, ha, noD]
  · simp [Ch.start, atB_nat, ha] at hh
/-- The chain with a rule more, before its Head may follow. -/
def Ch.add1 (c : Ch) (r : Rule) : Ch := { c with left := c.left ++ [(r.pos.length : Int)], heads := c.heads ++ [r.head] }
theorem Inv.add {n : Nat} {rs : List Rule} {c : Ch} {r : Rule} (h : Inv n rs noD c) (hr : RuleOk n r) : Inv n (rs ++ [r]) noD (c.add r) := by
  have hw := waitAll_same (c.left.length : Int) r.pos (c.add1 r)
  have hpos0 : ∀ x ∈ r.pos, 0 ≤ x := fun x hx => (hr.2.1 x hx).1
  have hget : ∀ (i : Nat) (q : Rule), (rs ++ [r])[i]? = some q → (i < rs.length ∧ rs[i]? = some q) ∨ (i = rs.length ∧ q = r) := fun i q hq => by
    by_cases hi : i < rs.length
    · rw [List.getElem?_append_left hi] at hq; exact .inl ⟨hi, hq⟩
    · have : i < (rs ++ [r]).length := (List.getElem?_eq_some_iff.1 hq).1
      simp at this
      have : i = rs.length := by omega
      subst this
      simp at hq
      exact .inr ⟨rfl, hq.symm⟩
  have base : IG n (rs ++ [r]) noD (Lc (rs ++ [r]) noD) (fun i => i = rs.length) (waitAll (c.add1 r) c.left.length r.pos) := by
    refine ⟨by rw [hw.1]; exact h.olen, by rw [hw.2.1]; simp [Ch.add1, h.llen], by rw [hw.2.2.1]; simp [Ch.add1, h.heads], by rw [hw.2.2.2.2]; exact h.wlen, fun p hp => ?_, fun i hi => ?_, fun i q hq hx hz => ?_, fun a ha => ?_, ?_, ?_, ?_, fun a ha hh => ?_⟩
    · rw [waitAll_who _ _ _ _ (by rw [show (c.add1 r).who = c.who from rfl, h.wlen]; exact hp) hpos0]
      rw [show (c.add1 r).who = c.who from rfl, h.who p hp, whoOf_snoc, h.llen]
      simp
    · rw [hw.2.1]
      by_cases hlt : i < rs.length
      · have h1 := h.left i rs[i] (List.getElem?_eq_getElem hlt)
        simp only [Ch.add1, List.getD_eq_getElem?_getD] at h1 ⊢
        rw [List.getElem?_append_left (by rw [h.llen]; exact hlt), h1, Lc_app rs r noD hlt]
        simp only [Lc, List.getElem?_eq_getElem hlt]
      · have : i = rs.length := by simp at hi; omega
        subst this
        simp only [Ch.add1, List.getD_eq_getElem?_getD]
        rw [List.getElem?_append_right (by rw [h.llen]; exact Nat.le_refl _), h.llen]
        simp [Lc, noD]
    · rcases hget i q hq with ⟨hi, hq'⟩ | ⟨hi, _⟩
      · rw [hw.1]
        refine h.zero i q hq' ?_
        rw [h.left i q hq']
        rw [Lc_app rs r noD hi] at hz
        simpa only [Lc, hq'] using hz
      · exact absurd hi hx
    · rw [hw.1, hw.2.2.2.1]; exact h.outs a ha
    · rw [hw.2.2.2.1]; exact h.disj
    · rw [hw.2.2.2.1]; exact h.nodup
    · rw [hw.2.2.2.1]; exact h.qin
    · rw [hw.1] at hh
      exact (h.sound a ha hh).mono (by simp_all)
  have hadd : c.add r = if r.pos.length = 0 then (waitAll (c.add1 r) c.left.length r.pos).follow r.head.toNat else waitAll (c.add1 r) c.left.length r.pos := rfl
  rw [hadd]
  refine IG.inv ?_
  split
  · rename_i hz
    have hnil : r.pos = [] := List.eq_nil_of_length_eq_zero hz
    refine base.follow (a := r.head.toNat) (by have := hr.1; omega) ?_ _ (fun i q hq _ hx => ?_)
    · rw [Int.toNat_of_nonneg hr.1.1]
      exact Der.mk (by simp) (by rw [hnil]; simp)
    · rcases hget i q hq with ⟨hi, _⟩ | ⟨_, rfl⟩
      · exact absurd hx (by omega)
      · rw [Int.toNat_of_nonneg hr.1.1]
  · rename_i hz
    refine ⟨base.olen, base.llen, base.heads, base.wlen, base.who, base.left, fun i q hq _ hl => ?_, base.outs, base.disj, base.nodup, base.qin, base.sound⟩
    by_cases hi : i = rs.length
    · rcases hget i q hq with ⟨hi', _⟩ | ⟨_, rfl⟩
      · omega
      · exfalso
        simp [Lc, hi, noD] at hl
        exact hz (by simp [hl])
    · exact base.zero i q hq hi hl

/-! ### A round -/
def addD (D : Int → Bool) (a : Int) : Int → Bool := fun x => D x || decide (x = a)
/-- The counters in the midst of a round: done are the rules that were told already. -/
def Lm (rs : List Rule) (D : Int → Bool) (done : List Int) (i : Nat) : Int := Lc rs D i - done.count (i : Int)
theorem countP_addD (D : Int → Bool) {a : Int} (ha : D a = false) (l : List Int) : (l.countP fun p => !D p) = (l.countP fun p => !addD D a p) + l.count a := by
  induction l with
  | nil => rfl
  | cons x l ih =>
    simp only [List.countP_cons, List.count_cons]
    by_cases hx : x = a
    · subst hx
      simp [addD, ha]
      simp [addD] at ih
      omega
    · simp [addD, hx]
      simp [addD] at ih
      split <;> omega
theorem Inv.pop {n : Nat} {rs : List Rule} {D : Int → Bool} {c : Ch} {a : Int} {q : List Int} (h : Inv n rs D c) (hq : c.queue = a :: q) : IG n rs (addD D a) (Lm rs D []) (fun _ => False) c.pop := by
  have hp : c.pop.queue = q := by simp [Ch.pop, hq]
  have hnd := h.nodup
  rw [hq] at hnd
  have hna := (List.nodup_cons.1 hnd)
  refine ⟨h.olen, h.llen, h.heads, h.wlen, h.who, fun i hi => ?_, fun i r hr _ hz => h.zero i r hr ?_, fun x hx => ?_, fun x hx => ?_, by rw [hp]; exact hna.2, fun x hx => h.qin x (by rw [hq]; rw [hp] at hx; simp [hx]), h.sound⟩
  · show c.left.getD i 0 = _
    rw [h.left i rs[i] (List.getElem?_eq_getElem hi)]
    simp [Lm, Lc, hi]
  · rw [h.left i r hr]
    simpa [Lm, Lc, hr] using hz
  · show atB c.out x = true ↔ _
    rw [h.outs x hx, hp, hq]
    simp only [addD, Bool.or_eq_true, decide_eq_true_eq, List.mem_cons]
    constructor
    · rintro (hh | hh | hh)
      · exact .inl (.inl hh)
      · exact .inl (.inr hh)
      · exact .inr hh
    · rintro ((hh | hh) | hh)
      · exact .inl hh
      · exact .inr (.inl hh)
      · exact .inr (.inr hh)
  · rw [hp] at hx
    have h1 := h.disj x (by rw [hq]; simp [hx])
    have h2 : x ≠ a := fun he => hna.1 (he ▸ hx)
    simp [addD, h1, h2]
theorem IG.met {n : Nat} {rs : List Rule} {D : Int → Bool} {c : Ch} {a : Nat} {done rest : List Int} {k : Int} (hr : ∀ r ∈ rs, RuleOk n r) (ha : a < n) (haD : D a = false) (h : IG n rs (addD D a) (Lm rs D done) (fun _ => False) c) (hw : whoOf a 0 rs = done ++ k :: rest) :
    (0 ≤ k ∧ k.toNat < rs.length ∧ 0 ≤ c.left.getD k.toNat 0) ∧ IG n rs (addD D a) (Lm rs D (done ++ [k])) (fun _ => False) (c.met k.toNat) := by
  have hk : k ∈ whoOf (a : Int) 0 rs := by rw [hw]; simp
  have hk2 := whoOf_mem hk
  simp only [Int.natCast_zero, Int.zero_add] at hk2
  obtain ⟨j, rfl⟩ := Int.eq_ofNat_of_zero_le hk2.1
  have hj : j < rs.length := by have := hk2.2; omega
  have hgj : rs[j]? = some rs[j] := List.getElem?_eq_getElem hj
  simp only [Int.toNat_natCast]
  -- how often a rule names the atom
  have hcnt := whoOf_count (a : Int) rs 0 j rs[j] hgj
  rw [Nat.zero_add, hw, List.count_append, List.count_cons_self] at hcnt
  have hcp := countP_addD D haD rs[j].pos
  have hleft := h.left j hj
  have hLc : Lc rs D j = ((rs[j].pos.countP fun p => !D p : Nat) : Int) := by simp [Lc, hj]
  have hll : j < c.left.length := by rw [h.llen]; exact hj
  have hhl : j < c.heads.length := by rw [h.heads]; simpa using hj
  have hheadj : c.heads.getD j 0 = rs[j].head := by rw [h.heads]; simp [hj]
  have hrj := hr rs[j] (List.getElem_mem hj)
  refine ⟨⟨by omega, hj, by rw [hleft, Lm, hLc]; omega⟩, ?_⟩
  have hdone : ∀ i : Nat, (done ++ [(j : Int)]).count (i : Int) = done.count (i : Int) + if i = j then 1 else 0 := fun i => by
    rw [List.count_append]
    by_cases hij : i = j
    · subst hij; simp
    · rw [if_neg hij]
      have : ([(j : Int)] : List Int).count (i : Int) = 0 := by
        rw [List.count_eq_zero]; simp; omega
      omega
  have base : IG n rs (addD D a) (Lm rs D (done ++ [(j : Int)])) (fun i => i = j) { c with left := c.left.set j (c.left.getD j 0 - 1) } := by
    refine ⟨h.olen, by simpa using h.llen, h.heads, h.wlen, h.who, fun i hi => ?_, fun i r hri hx hz => h.zero i r hri (fun hh => hh) ?_, h.outs, h.disj, h.nodup, h.qin, h.sound⟩
    · by_cases hij : j = i
      · subst hij
        have h1 := hdone j
        rw [if_pos rfl] at h1
        simp only [List.getD_eq_getElem?_getD, List.getElem?_set_self hll, Option.getD_some] at hleft ⊢
        rw [hleft]
        unfold Lm
        omega
      · have h1 := hdone i
        rw [if_neg (Ne.symm hij)] at h1
        have := h.left i hi
        simp only [List.getD_eq_getElem?_getD, List.getElem?_set_ne hij] at this ⊢
        rw [this]
        unfold Lm
        omega
    · have h1 := hdone i
      rw [if_neg hx] at h1
      unfold Lm at hz ⊢
      omega
  have hmet : c.met j = if c.left.getD j 0 - 1 = 0 then ({ c with left := c.left.set j (c.left.getD j 0 - 1) } : Ch).follow rs[j].head.toNat else { c with left := c.left.set j (c.left.getD j 0 - 1) } := by
    unfold Ch.met
    rw [hheadj]
  rw [hmet]
  split
  · rename_i hz
    refine base.follow (a := rs[j].head.toNat) (by have := hrj.1; omega) ?_ _ (fun i r hri _ hx => ?_)
    · rw [Int.toNat_of_nonneg hrj.1.1]
      refine Der.mk (List.getElem_mem hj) fun p hp => ?_
      have h0 : (rs[j].pos.countP fun p => !addD D a p) = 0 := by
        rw [hleft, Lm, hLc] at hz
        omega
      have hD := (List.countP_eq_zero.1 h0) p hp
      have hp0 := hrj.2.1 p hp
      have hpp : ((p.toNat : Nat) : Int) = p := Int.toNat_of_nonneg hp0.1
      rw [← hpp]
      refine h.sound p.toNat (by omega) ((h.outs p.toNat (by omega)).2 (.inl ?_))
      rw [hpp]
      simpa using hD
    · subst hx
      rw [hgj] at hri
      cases hri
      rw [Int.toNat_of_nonneg hrj.1.1]
  · rename_i hz
    refine ⟨base.olen, base.llen, base.heads, base.wlen, base.who, base.left, fun i r hri _ hl => ?_, base.outs, base.disj, base.nodup, base.qin, base.sound⟩
    by_cases hij : i = j
    · subst hij
      exfalso
      have := base.left i hj
      rw [hl] at this
      simp only [List.getD_eq_getElem?_getD, List.getElem?_set_self hll, Option.getD_some] at this hz
      exact hz this
    · exact base.zero i r hri hij hl
theorem IG.close {n : Nat} {rs : List Rule} {D : Int → Bool} {c : Ch} {a : Nat} (haD : D a = false) (h : IG n rs (addD D a) (Lm rs D (whoOf a 0 rs)) (fun _ => False) c) : Inv n rs (addD D a) c := by
  refine IG.inv (h.ext fun i hi => ?_)
  have hcnt := whoOf_count (a : Int) rs 0 i rs[i] (List.getElem?_eq_getElem hi)
  rw [Nat.zero_add] at hcnt
  have hcp := countP_addD D haD rs[i].pos
  simp only [Lm, Lc, List.getElem?_eq_getElem hi]
  omega
/-- How many atoms were not handed on yet. -/
def openD (n : Nat) (D : Int → Bool) : Nat := (List.range n).countP fun (a : Nat) => !D (a : Int)
theorem openD_lt {n : Nat} {D : Int → Bool} {a : Nat} (ha : a < n) (haD : D a = false) : openD n (addD D a) < openD n D := by
  have h1 : ∀ (l : List Nat), a ∈ l → (l.countP fun (x : Nat) => !addD D a (x : Int)) < l.countP fun (x : Nat) => !D (x : Int) := by
    intro l
    induction l with
    | nil => intro h; cases h
    | cons x l ih =>
      intro h
      have hle : (l.countP fun (x : Nat) => !addD D a (x : Int)) ≤ l.countP fun (x : Nat) => !D (x : Int) := List.countP_mono_left fun y _ hy => by
        simp [addD] at hy ⊢
        exact hy.1
      simp only [List.countP_cons]
      by_cases hx : x = a
      · subst hx
        simp [addD, haD]
        simp [addD] at hle
        omega
      · have := ih (by rcases List.mem_cons.1 h with h | h; exact absurd h.symm hx; exact h)
        have hxa : ¬ (x : Int) = (a : Int) := by omega
        have e : addD D a (x : Int) = D (x : Int) := by simp [addD, hxa]
        rw [e]
        omega
  exact h1 _ (List.mem_range.2 ha)
theorem whoOf_len {B : Nat} (p : Int) : ∀ (rs : List Rule) (i : Nat), (∀ r ∈ rs, r.pos.length ≤ B) → (whoOf p i rs).length ≤ rs.length * B
  | [], i, _ => by simp [whoOf]
  | r :: rs, i, h => by
    have h1 := whoOf_len p rs (i + 1) (fun x hx => h x (by simp [hx]))
    have h2 := h r (by simp)
    have h3 : r.pos.count p ≤ r.pos.length := List.count_le_length
    simp only [whoOf, List.length_append, List.length_replicate, List.length_cons, Nat.add_mul, Nat.one_mul]
    omega
theorem filter_take_t {α : Type} (p : α → Bool) (l : List α) (k : Nat) (h : k < l.length) (hp : p l[k] = true) : (l.take (k + 1)).filter p = (l.take k).filter p ++ [l[k]] := by
  rw [List.take_succ_eq_append_getElem h, List.filter_append]
  simp [hp]
theorem filter_take_f {α : Type} (p : α → Bool) (l : List α) (k : Nat) (h : k < l.length) (hp : p l[k] = false) : (l.take (k + 1)).filter p = (l.take k).filter p := by
  rw [List.take_succ_eq_append_getElem h, List.filter_append]
  simp [hp]
theorem filter_take_len {α : Type} (p : α → Bool) (l : List α) (k : Nat) : ((l.take k).filter p).length ≤ l.length := by
  have := List.length_filter_le p (l.take k)
  have h2 : (l.take k).length ≤ l.length := by simp; omega
  omega
end Go.Proofs.Ytnmkffkalnkbbaa.Pl
