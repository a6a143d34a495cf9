/-
  Plain words: what leads where, in any many steps; what roots need, together and one by one. No program of Go stands here.
  No condition but the premises of each theorem.
-/
import Derived.Test.YtnmkffkalnkbbaaPhc
namespace Go.Proofs.Ytnmkffkalnkbbaa.Pl
set_option linter.unusedVariables false
set_option linter.unusedSimpArgs false
inductive Rc (cs : List Cell) : Int → Int → Prop where
  | refl (a : Int) : Rc cs a a
  | step {a b c : Int} : Rc cs a b → c ∈ leadsI cs b → Rc cs a c
theorem leadsI_lt {cs : List Cell} {p q : Int} (h0 : 0 ≤ p) (h : q ∈ leadsI cs p) : p < cs.length := by
  unfold leadsI at h
  by_cases hp : p.toNat < cs.length
  · omega
  · rw [List.getElem?_eq_none (by omega)] at h
    cases h
theorem Rc.range {cs : List Cell} (hs : ShOk cs) {a b : Int} (h : Rc cs a b) (h0 : 0 ≤ a) (h1 : a < cs.length) : 0 ≤ b ∧ b < cs.length := by
  induction h with
  | refl => exact ⟨h0, h1⟩
  | step _ hc ih =>
    obtain ⟨k, hk⟩ := Int.eq_ofNat_of_zero_le ih.1
    rw [hk] at hc ih
    exact leads_range hs (by omega) hc
theorem Rc.trans {cs : List Cell} {a b c : Int} (h : Rc cs a b) (h' : Rc cs b c) : Rc cs a c := by
  induction h' with
  | refl => exact h
  | step _ hc ih => exact .step ih hc
theorem Rc.rk {cs : List Cell} {r : Nat → Nat} (hs : ShOk cs) (hr : IsRk cs r) {a b : Int} (h : Rc cs a b) (h0 : 0 ≤ a) (h1 : a < cs.length) : r b.toNat ≤ r a.toNat := by
  induction h with
  | refl => exact Nat.le_refl _
  | step hb hc ih =>
    have hbr := hb.range hs h0 h1
    obtain ⟨k, hk⟩ := Int.eq_ofNat_of_zero_le hbr.1
    rw [hk] at hc ih hbr
    have hcr := leads_range hs (by omega) hc
    obtain ⟨j, hj⟩ := Int.eq_ofNat_of_zero_le hcr.1
    rw [hj] at hc ⊢
    have := hr k (by omega) j hc
    simp only [Int.toNat_natCast] at ih ⊢
    omega
theorem der_iff {cs : List Cell} (hs : ShOk cs) {roots : List Int} {a : Int} : Der (needR cs roots) a ↔ ∃ r ∈ roots, (0 ≤ r ∧ r < cs.length) ∧ Rc cs r a := by
  constructor
  · intro h
    refine h (fun a => ∃ r ∈ roots, (0 ≤ r ∧ r < cs.length) ∧ Rc cs r a) fun x hx hp => ?_
    rcases List.mem_append.1 hx with hx | hx
    · obtain ⟨p, hp1, hx⟩ := List.mem_flatMap.1 hx
      obtain ⟨q, hq, rfl⟩ := List.mem_map.1 hx
      obtain ⟨r, h1, h2, h3⟩ := hp (p : Int) (by simp)
      exact ⟨r, h1, h2, .step h3 hq⟩
    · obtain ⟨q, hq, rfl⟩ := List.mem_map.1 hx
      obtain ⟨h1, h2⟩ := List.mem_filter.1 hq
      simp only [Bool.and_eq_true, decide_eq_true_eq] at h2
      exact ⟨q, h1, h2, .refl _⟩
  · rintro ⟨r, h1, h2, h3⟩
    induction h3 with
    | refl => exact Der.mk (r := ⟨r, [], []⟩) (List.mem_append.2 (.inr (rootR_mem h1 h2.1 h2.2))) (by simp)
    | step hb hc ih =>
      rename_i b c
      have hbr := hb.range hs h2.1 h2.2
      obtain ⟨k, rfl⟩ := Int.eq_ofNat_of_zero_le hbr.1
      exact Der.mk (r := ⟨c, [(k : Int)], []⟩) (List.mem_append.2 (.inl (leadR_mem (by omega) hc))) (fun x hx => by
        have : x = (k : Int) := by simpa using hx
        subst this
        exact ih)
theorem liveB_iff {cs : List Cell} (hs : ShOk cs) {roots : List Int} {a : Nat} (ha : a < cs.length) : atB (liveB cs roots) a = true ↔ ∃ r ∈ roots, (0 ≤ r ∧ r < cs.length) ∧ Rc cs r a :=
  ((leastB_is _ _ (needR_ok hs roots)).iff (needR_ok hs roots) ha).trans (der_iff hs)
theorem no_round {cs : List Cell} (hs : ShOk cs) (hr : Rk cs) {p : Nat} (hp : p < cs.length) {q : Int} (hq : q ∈ leadsI cs (p : Int)) : atB (liveB cs [q]) p = false := by
  obtain ⟨r, hr⟩ := hr
  have hqr := leads_range hs hp hq
  obtain ⟨j, rfl⟩ := Int.eq_ofNat_of_zero_le hqr.1
  cases h : atB (liveB cs [(j : Int)]) p with
  | false => rfl
  | true =>
    obtain ⟨x, hx, _, hc⟩ := (liveB_iff hs hp).1 h
    have : x = (j : Int) := by simpa using hx
    subst this
    have h1 := hc.rk hs hr hqr.1 hqr.2
    have h2 := hr p hp j hq
    simp only [Int.toNat_natCast] at h1
    omega
theorem bool_iff {a b : Bool} (h : a = true ↔ b = true) : a = b := by
  cases a <;> cases b <;> simp_all
theorem liveB_ext {cs : List Cell} (hs : ShOk cs) {r1 r2 : List Int} (h : ∀ a : Nat, a < cs.length → ((∃ r ∈ r1, (0 ≤ r ∧ r < cs.length) ∧ Rc cs r a) ↔ ∃ r ∈ r2, (0 ≤ r ∧ r < cs.length) ∧ Rc cs r a)) : liveB cs r1 = liveB cs r2 :=
  ext_at (by rw [liveB_len, liveB_len]) fun a ha => by
    rw [liveB_len] at ha
    exact bool_iff ((liveB_iff hs ha).trans ((h a ha).trans (liveB_iff hs ha).symm))
/-- A root that is no place, or is needed already, needs nothing more. -/
theorem live_skip {cs : List Cell} (hs : ShOk cs) {rs : List Int} {r : Int} (h : ¬ (0 ≤ r ∧ r < cs.length) ∨ atB (liveB cs rs) r = true) : liveB cs (rs ++ [r]) = liveB cs rs :=
  liveB_ext hs fun a ha => by
    constructor
    · rintro ⟨x, hx, hv, hc⟩
      rcases List.mem_append.1 hx with hx | hx
      · exact ⟨x, hx, hv, hc⟩
      · have : x = r := by simpa using hx
        subst this
        rcases h with h | h
        · exact absurd hv h
        · obtain ⟨k, rfl⟩ := Int.eq_ofNat_of_zero_le hv.1
          obtain ⟨y, h1, h2, h3⟩ := (liveB_iff hs (by omega)).1 h
          exact ⟨y, h1, h2, h3.trans hc⟩
    · rintro ⟨x, hx, hv, hc⟩
      exact ⟨x, List.mem_append.2 (.inl hx), hv, hc⟩
def orB (a b : List Bool) : List Bool := (List.range a.length).map fun (i : Nat) => atB a i || atB b i
theorem orB_len (a b : List Bool) : (orB a b).length = a.length := by simp [orB]
theorem orB_at {a b : List Bool} {i : Nat} (h : i < a.length) : atB (orB a b) i = (atB a i || atB b i) := by
  rw [atB_nat]
  simp [orB, h]
theorem live_or {cs : List Cell} (hs : ShOk cs) {rs : List Int} {r : Int} : orB (liveB cs rs) (liveB cs [r]) = liveB cs (rs ++ [r]) :=
  ext_at (by rw [orB_len, liveB_len, liveB_len]) fun a ha => by
    rw [orB_len, liveB_len] at ha
    rw [orB_at (by rw [liveB_len]; exact ha)]
    refine bool_iff ?_
    rw [Bool.or_eq_true, liveB_iff hs ha, liveB_iff hs ha, liveB_iff hs ha]
    constructor
    · rintro (⟨x, h1, h2⟩ | ⟨x, h1, h2⟩)
      · exact ⟨x, List.mem_append.2 (.inl h1), h2⟩
      · exact ⟨x, List.mem_append.2 (.inr h1), h2⟩
    · rintro ⟨x, h1, h2⟩
      rcases List.mem_append.1 h1 with h1 | h1
      · exact .inl ⟨x, h1, h2⟩
      · exact .inr ⟨x, h1, h2⟩
theorem live_nil (cs : List Cell) (hs : ShOk cs) : liveB cs [] = List.replicate cs.length false :=
  ext_at (by rw [liveB_len, List.length_replicate]) fun a ha => by
    rw [liveB_len] at ha
    refine bool_iff ?_
    rw [liveB_iff hs ha]
    simp [atB_nat, ha]
/-- One row is joined to another one, place by place. -/
theorem or_set {o s : List Bool} {k : Nat} (hk : k < o.length) : ((orB o s).take k ++ o.drop k).set k (atB o k || atB s k) = (orB o s).take (k + 1) ++ o.drop (k + 1) := by
  have hl : ((orB o s).take k).length = k := by simp [orB_len]; omega
  have hx : (orB o s)[k]? = some (atB o k || atB s k) := by
    have h1 : k < (orB o s).length := by rw [orB_len]; exact hk
    rw [List.getElem?_eq_getElem h1]
    simp [orB]
  rw [List.set_append_right _ _ (by omega), hl, Nat.sub_self, List.drop_eq_getElem_cons hk, List.set_cons_zero, List.take_add_one, hx]
  simp
theorem or_at {o s : List Bool} {k : Nat} (hk : k < o.length) : ((orB o s).take k ++ o.drop k)[k]? = some (atB o k) := by
  have hl : ((orB o s).take k).length = k := by simp [orB_len]; omega
  rw [List.getElem?_append_right (by omega), hl, Nat.sub_self, List.getElem?_drop, Nat.add_zero, List.getElem?_eq_getElem hk, atB_nat]
  simp [hk]
theorem or_len {o s : List Bool} {k : Nat} (hk : k ≤ o.length) : ((orB o s).take k ++ o.drop k).length = o.length := by
  simp [orB_len]
  omega
theorem allI_len {roots : List Int} {ms : List Mk} {B : Nat} (h : ∀ m ∈ ms, m.roots.length ≤ B) (k : Nat) : (allI roots (ms.take k)).length ≤ roots.length + ms.length * B := by
  unfold allI
  rw [List.length_append]
  have key : ∀ l : List Mk, (∀ m ∈ l, m.roots.length ≤ B) → (l.flatMap (·.roots)).length ≤ l.length * B := by
    intro l
    induction l with
    | nil => simp
    | cons m l ih =>
      intro h
      have h1 := ih fun x hx => h x (by simp [hx])
      have h2 := h m (by simp)
      simp only [List.flatMap_cons, List.length_append, List.length_cons, Nat.add_mul, Nat.one_mul]
      omega
  have h1 := key (ms.take k) (fun m hm => h m (List.mem_of_mem_take hm))
  have h2 : (ms.take k).length * B ≤ ms.length * B := Nat.mul_le_mul_right _ (by simp; omega)
  omega
theorem allI_mem {roots : List Int} {ms : List Mk} {a : Int} : a ∈ allI roots ms ↔ a ∈ roots ∨ ∃ m ∈ ms, a ∈ m.roots := by
  simp [allI]
end Go.Proofs.Ytnmkffkalnkbbaa.Pl
