/-
  Plain words: slots of one heap that stand in another one: where they lead, what is followed, what is got, what is right. No program of Go stands here.
  No condition but the premises of each theorem.
-/
import Derived.Test.YtnmkffkalnkbbaaPhj
namespace Go.Proofs.Ytnmkffkalnkbbaa.Pl
set_option linter.unusedVariables false
set_option linter.unusedSimpArgs false
theorem slotM_kind (to : List Int) (s : Cell) : (slotM to s).kind = s.kind := by unfold slotM; split <;> rfl
theorem slotM_name (to : List Int) (s : Cell) : (slotM to s).name = s.name := by unfold slotM; split <;> rfl
theorem slotM_n {to : List Int} {s : Cell} (h : s.kind = 1 ∨ s.kind = 3) : (slotM to s).n = valI to s.n := by unfold slotM; rw [if_pos h]
theorem slotM_n' {to : List Int} {s : Cell} (h : ¬ (s.kind = 1 ∨ s.kind = 3)) : slotM to s = s := by unfold slotM; rw [if_neg h]
/-- Slots of one heap, those of L, stand in another one; `to` is where. -/
structure Rn (cs cs2 : List Cell) (to : List Int) (L : Nat → Prop) : Prop where
  lt : ∀ p, L p → p < cs.length ∧ p < to.length
  closed : ∀ p, L p → ∀ q : Nat, (q : Int) ∈ leadsI cs p → L q
  slot : ∀ p, L p → ∃ (q : Nat) (s : Cell), valI to p = q ∧ cs[p]? = some s ∧ cs2[q]? = some (slotM to s)
  mono : ∀ p q, L p → L q → p < q → valI to p < valI to q
  top : ∀ (p : Nat) s, L p → cs[p]? = some s → s.kind = 4 → ∀ i : Nat, (i : Int) < s.n → valI to ((p : Int) + 1 + i) = valI to p + 1 + i
section
variable {cs cs2 : List Cell} {to : List Int} {L : Nat → Prop}
theorem Rn.inj (h : Rn cs cs2 to L) {p q : Nat} (hp : L p) (hq : L q) (he : valI to p = valI to q) : p = q := by
  rcases Nat.lt_trichotomy p q with h1 | h1 | h1
  · have := h.mono p q hp hq h1
    omega
  · exact h1
  · have := h.mono q p hq hp h1
    omega
theorem Rn.at_ (h : Rn cs cs2 to L) {p : Nat} (hp : L p) : ∃ (q : Nat) (hl : p < cs.length) (hq : q < cs2.length), valI to p = q ∧ cs2[q] = slotM to cs[p] := by
  obtain ⟨q, s, h1, h2, h3⟩ := h.slot p hp
  obtain ⟨hl, h4⟩ := List.getElem?_eq_some_iff.1 h2
  obtain ⟨hq, h5⟩ := List.getElem?_eq_some_iff.1 h3
  exact ⟨q, hl, hq, h1, by rw [h5, h4]⟩
theorem Rn.next (h : Rn cs cs2 to L) (hs : ShOk cs) {p : Nat} (hp : L p) {q : Int} (hq : q ∈ leadsI cs (p : Int)) : ∃ k : Nat, q = k ∧ L k := by
  have h0 := leads_range hs (h.lt p hp).1 hq
  obtain ⟨k, rfl⟩ := Int.eq_ofNat_of_zero_le h0.1
  exact ⟨k, rfl, h.closed p hp k hq⟩
theorem Rn.nself (h : Rn cs cs2 to L) (hs : ShOk cs) {p : Nat} (hp : L p) (hl : p < cs.length) (h1 : cs[p].kind = 1) : valI to cs[p].n = valI to p ↔ cs[p].n = p := by
  constructor
  · intro he
    by_cases hn : cs[p].n = p
    · exact hn
    · obtain ⟨k, hk, hL⟩ := h.next hs hp (q := cs[p].n) (by rw [leadsI_at hl, if_pos (.inr ⟨h1, hn⟩)]; simp)
      rw [hk] at he
      have := h.inj hL hp he
      omega
  · intro he
    rw [he]
theorem Rn.leads (h : Rn cs cs2 to L) (hs : ShOk cs) {p : Nat} (hp : L p) : leadsI cs2 (valI to p) = (leadsI cs p).map (valI to) := by
  obtain ⟨q, hl, hq, he, hc⟩ := h.at_ hp
  have hns := h.nself hs hp hl
  rw [he] at hns
  rw [he, leadsI_at hq, leadsI_at hl, hc, slotM_kind]
  by_cases h3 : cs[p].kind = 3
  · rw [if_pos (.inl h3), if_pos (.inl h3), slotM_n (.inr h3)]
    rfl
  · by_cases h1 : cs[p].kind = 1
    · rw [slotM_n (.inl h1)]
      by_cases hn : cs[p].n = p
      · have hn2 := (hns h1).2 hn
        rw [if_neg (by simp [h3, hn2]), if_neg (by omega), if_neg (by simp [h3, hn]), if_neg (by omega)]
        rfl
      · have hn2 : valI to cs[p].n ≠ q := fun e => hn ((hns h1).1 e)
        rw [if_pos (.inr ⟨h1, hn2⟩), if_pos (.inr ⟨h1, hn⟩)]
        rfl
    · rw [slotM_n' (by omega), if_neg (show ¬(cs[p].kind = 3 ∨ cs[p].kind = 1 ∧ cs[p].n ≠ q) by omega), if_neg (show ¬(cs[p].kind = 3 ∨ cs[p].kind = 1 ∧ cs[p].n ≠ p) by omega)]
      by_cases h4 : cs[p].kind = 4
      · rw [if_pos h4, if_pos h4, List.map_map]
        refine List.map_congr_left fun i hi => ?_
        rw [List.mem_range] at hi
        have := h.top p _ hp (List.getElem?_eq_getElem hl) h4 i (by omega)
        simp only [Function.comp]
        omega
      · rw [if_neg h4, if_neg h4]
        rfl
theorem Rn.rc (h : Rn cs cs2 to L) (hs : ShOk cs) {p : Nat} (hp : L p) {b : Int} (hb : Rc cs p b) : Rc cs2 (valI to p) (valI to b) ∧ ∃ k : Nat, b = k ∧ L k := by
  induction hb with
  | refl => exact ⟨.refl _, p, rfl, hp⟩
  | step hb hc ih =>
    obtain ⟨h1, k, rfl, h3⟩ := ih
    refine ⟨.step h1 ?_, h.next hs h3 hc⟩
    rw [h.leads hs h3]
    exact List.mem_map_of_mem hc
theorem Rn.rc' (h : Rn cs cs2 to L) (hs : ShOk cs) {p : Nat} (hp : L p) {y : Int} (hb : Rc cs2 (valI to p) y) : ∃ k : Nat, L k ∧ y = valI to k ∧ Rc cs p k := by
  induction hb with
  | refl => exact ⟨p, hp, rfl, .refl _⟩
  | step hb hc ih =>
    obtain ⟨k, h1, rfl, h3⟩ := ih
    rw [h.leads hs h1] at hc
    obtain ⟨x, hx, rfl⟩ := List.mem_map.1 hc
    obtain ⟨j, rfl, h4⟩ := h.next hs h1 hx
    exact ⟨j, h4, rfl, .step h3 hx⟩
theorem Rn.step (h : Rn cs cs2 to L) (hs : ShOk cs) {p : Nat} (hp : L p) : stepF cs2 (valI to p) = (stepF cs p).map (valI to) := by
  obtain ⟨q, hl, hq, he, hc⟩ := h.at_ hp
  have hns := h.nself hs hp hl
  rw [he] at hns
  rw [he, stepF_at hq, stepF_at hl, hc, slotM_kind]
  by_cases h3 : cs[p].kind = 3
  · rw [if_pos (.inr h3), if_pos (.inr h3), slotM_n (.inr h3)]
    rfl
  · by_cases h1 : cs[p].kind = 1
    · rw [slotM_n (.inl h1)]
      by_cases hn : cs[p].n = p
      · have hn2 := (hns h1).2 hn
        rw [if_neg (by simp [h3, hn2]), if_neg (by simp [h3, hn])]
        rfl
      · have hn2 : valI to cs[p].n ≠ q := fun e => hn ((hns h1).1 e)
        rw [if_pos (.inl ⟨h1, hn2⟩), if_pos (.inl ⟨h1, hn⟩)]
        rfl
    · rw [if_neg (by omega), if_neg (by omega)]
      rfl
theorem Rn.fol (h : Rn cs cs2 to L) (hs : ShOk cs) : ∀ (n p : Nat) (b : Int), L p → FolN cs n p b → FolN cs2 n (valI to p) (valI to b) ∧ ∃ k : Nat, b = k ∧ L k
  | 0, p, b, hp, ⟨h1, h2⟩ => by
    subst h2
    exact ⟨⟨by rw [h.step hs hp, h1]; rfl, rfl⟩, p, rfl, hp⟩
  | n + 1, p, b, hp, ⟨c, h1, h2⟩ => by
    have hl := stepF_leads (by omega) (by have := (h.lt p hp).1; omega) h1
    obtain ⟨k, rfl, hk⟩ := h.next hs hp (q := c) (by rw [hl]; simp)
    obtain ⟨h3, h4⟩ := Rn.fol h hs n k b hk h2
    exact ⟨⟨valI to k, by rw [h.step hs hp, h1]; rfl, h3⟩, h4⟩
theorem FolN.uniq {cs : List Cell} {n m : Nat} {a b c : Int} (h : FolN cs n a b) (h' : FolN cs m a c) : b = c := by
  rw [← h.toF (Nat.le_max_left n m), ← h'.toF (Nat.le_max_right n m)]
theorem Rn.range2 (h : Rn cs cs2 to L) {p : Nat} (hp : L p) : 0 ≤ valI to p ∧ valI to p < cs2.length := by
  obtain ⟨q, hl, hq, he, hc⟩ := h.at_ hp
  omega
theorem Rn.follow (h : Rn cs cs2 to L) (hs : ShOk cs) (hr : Rk cs) (hs2 : ShOk cs2) (hr2 : Rk cs2) {p : Nat} (hp : L p) : followC cs2 (valI to p) = valI to (followC cs p) ∧ ∃ k : Nat, followC cs p = k ∧ L k := by
  obtain ⟨n, h1, _⟩ := followC_ex hs hr (a := (p : Int)) (by omega) (by have := (h.lt p hp).1; omega)
  obtain ⟨h2, h3⟩ := h.fol hs n p _ hp h1
  obtain ⟨h4, h5⟩ := h.range2 hp
  obtain ⟨m, h6, _⟩ := followC_ex hs2 hr2 h4 h5
  exact ⟨h6.uniq h2, h3⟩
/-! ### What is got -/
def movT (to : List Int) (c : Cell) : Cell := if c.kind = 1 ∧ c.n < to.length then ⟨c.kind, c.name, valI to c.n⟩ else c
theorem argsF_map {g g2 : Int → Nat → List Cell} {f : Cell → Cell} {p q : Int} {hv : Nat} {out : List Cell} : ∀ {m : Nat}, (∀ i : Nat, i < m → ∀ h, g2 (q + 1 + i) h = (g (p + 1 + i) h).map f) → argsF g2 q hv m (out.map f) = (argsF g p hv m out).map f
  | 0, _ => rfl
  | m + 1, h => by
    have ih := argsF_map (g := g) (g2 := g2) (f := f) (p := p) (q := q) (hv := hv) (out := out) (m := m) fun i hi => h i (by omega)
    simp only [argsF, ih, List.length_map]
    split
    · rw [h m (by omega), List.map_append]
    · rfl
theorem Rn.get (h : Rn cs cs2 to L) (hs : ShOk cs) (hr : Rk cs) (hs2 : ShOk cs2) (hr2 : Rk cs2) : ∀ (k p hv : Nat), L p → getF cs2 k (valI to p) hv = (getF cs k p hv).map (movT to)
  | 0, _, _, _ => rfl
  | k + 1, p, hv, hp => by
    obtain ⟨h1, j, hj, hL⟩ := h.follow hs hr hs2 hr2 hp
    obtain ⟨n, hn, _⟩ := followC_ex hs hr (a := (p : Int)) (by omega) (by have := (h.lt p hp).1; omega)
    obtain ⟨q, hl, hq, he, hc⟩ := h.at_ hL
    have hlt := (h.lt j hL).2
    unfold getF
    rw [h1, hj, he, show ((q : Nat) : Int).toNat = q from rfl, show ((j : Nat) : Int).toNat = j from rfl, List.getElem?_eq_getElem hl, List.getElem?_eq_getElem hq, hc]
    simp only [slotM_kind, slotM_name]
    by_cases h1 : cs[j].kind = 1
    · rw [if_pos h1, if_pos h1]
      simp only [List.map_cons, List.map_nil, movT]
      rw [if_pos ⟨trivial, by omega⟩, he]
    · rw [if_neg h1, if_neg h1]
      by_cases h2 : cs[j].kind = 2
      · rw [if_pos h2, if_pos h2, slotM_n' (by omega)]
        rfl
      · rw [if_neg h2, if_neg h2]
        have hso := hs j hl
        unfold SlotOk at hso
        have h4 : cs[j].kind = 4 := by
          by_cases h3 : cs[j].kind = 3
          · exfalso
            have hst := hn.end_
            rw [hj, stepF_at hl, if_pos (.inr h3)] at hst
            cases hst
          · omega
        rw [slotM_n' (by omega)]
        have : [(⟨3, cs[j].name, cs[j].n⟩ : Cell)] = [(⟨3, cs[j].name, cs[j].n⟩ : Cell)].map (movT to) := rfl
        rw [this]
        refine argsF_map fun i hi hv' => ?_
        have ht := h.top j _ hL (List.getElem?_eq_getElem hl) h4 i (by omega)
        rw [he] at ht
        obtain ⟨x, hx, hLx⟩ := h.next hs hL (q := (j : Int) + 1 + i) (by rw [leadsI_at hl, if_neg (by omega), if_pos h4]; exact List.mem_map.2 ⟨i, List.mem_range.2 hi, rfl⟩)
        rw [← ht, hx]
        exact Rn.get h hs hr hs2 hr2 k x hv' hLx
theorem argsF_mem {g : Int → Nat → List Cell} {p : Int} {hv : Nat} {out : List Cell} {c : Cell} : ∀ {m : Nat}, c ∈ argsF g p hv m out → c ∈ out ∨ ∃ i : Nat, i < m ∧ ∃ h, c ∈ g (p + 1 + i) h
  | 0, h => .inl h
  | m + 1, h => by
    simp only [argsF] at h
    split at h
    · rcases List.mem_append.1 h with h | h
      · exact (argsF_mem h).imp id fun ⟨i, h1, h2⟩ => ⟨i, by omega, h2⟩
      · exact .inr ⟨m, by omega, _, h⟩
    · exact (argsF_mem h).imp id fun ⟨i, h1, h2⟩ => ⟨i, by omega, h2⟩
theorem Rn.cells (h : Rn cs cs2 to L) (hs : SlR cs) (hr : Rk cs) (hn : cs.length ≤ 1000) (hn2 : cs2.length ≤ 1000) : ∀ (k p hv : Nat), L p → ∀ c ∈ getF cs k p hv, cellB c = true ∧ cellB (movT to c) = true ∧ nfC (movT to c) = nfC c
  | 0, _, _, _ => by intro c hc; cases hc
  | k + 1, p, hv, hp => by
    intro c hc
    have hpl := (h.lt p hp).1
    obtain ⟨n, hf, _⟩ := followC_ex hs.ok hr (a := (p : Int)) (by omega) (by omega)
    obtain ⟨_, j, hj, hL⟩ := h.fol hs.ok n p _ hp hf
    obtain ⟨q, hl, hq, he, _⟩ := h.at_ hL
    have hlt := (h.lt j hL).2
    have hso := hs j hl
    unfold SlotR at hso
    unfold getF at hc
    rw [hj, show ((j : Nat) : Int).toNat = j from rfl, List.getElem?_eq_getElem hl] at hc
    simp only [] at hc
    by_cases h1 : cs[j].kind = 1
    · rw [if_pos h1] at hc
      obtain rfl : c = _ := by simpa using hc
      have hm : movT to ⟨1, ByteArray.empty, (j : Int)⟩ = ⟨1, ByteArray.empty, (q : Int)⟩ := by
        simp only [movT]
        rw [if_pos ⟨trivial, by omega⟩, he]
      rw [hm]
      refine ⟨?_, ?_, rfl⟩ <;> simp only [cellB, empty_toList] <;> simp <;> omega
    · rw [if_neg h1] at hc
      by_cases h2 : cs[j].kind = 2
      · rw [if_pos h2] at hc
        obtain rfl : c = _ := by simpa using hc
        have hm : movT to ⟨2, ByteArray.empty, cs[j].n⟩ = ⟨2, ByteArray.empty, cs[j].n⟩ := by simp [movT]
        rw [hm]
        refine ⟨?_, ?_, rfl⟩ <;> simp only [cellB, empty_toList] <;> simp <;> omega
      · rw [if_neg h2] at hc
        have h4 : cs[j].kind = 4 := by
          by_cases h3 : cs[j].kind = 3
          · exfalso
            have hst := hf.end_
            rw [hj, stepF_at hl, if_pos (.inr h3)] at hst
            cases hst
          · omega
        rcases argsF_mem hc with hc | ⟨i, hi, hv', hc⟩
        · obtain rfl : c = _ := by simpa using hc
          have hm : movT to ⟨3, cs[j].name, cs[j].n⟩ = ⟨3, cs[j].name, cs[j].n⟩ := by simp [movT]
          rw [hm]
          rcases hso with hso | hso | hso | hso
          · omega
          · omega
          · omega
          · refine ⟨?_, ?_, rfl⟩ <;> simp only [cellB, hso.2.2.2.2.1] <;> simp <;> omega
        · obtain ⟨x, hx, hLx⟩ := h.next hs.ok hL (q := (j : Int) + 1 + i) (by rw [leadsI_at hl, if_neg (by omega), if_pos h4]; exact List.mem_map.2 ⟨i, List.mem_range.2 hi, rfl⟩)
          rw [hx] at hc
          exact Rn.cells h hs hr hn hn2 k x hv' hLx c hc
theorem Rn.getT (h : Rn cs cs2 to L) (hs : SlR cs) (hr : Rk cs) (hs2 : SlR cs2) (hr2 : Rk cs2) (hn : cs.length ≤ 1000) (hle : cs2.length ≤ cs.length) {p : Nat} (hp : L p) : Pl.getT cs2 (valI to p) = (Pl.getT cs p).map (fun t => t.map (movT to)) := by
  obtain ⟨h1, h2⟩ := h.range2 hp
  have hpl := (h.lt p hp).1
  obtain ⟨r2, h3, h4⟩ := hr2.small hs2.ok
  have h5 := h4 (valI to p).toNat (by omega)
  have hg : getI cs2 (valI to p) = (getI cs p).map (movT to) := by
    unfold getI
    rw [getF_rk hs2.ok h3 cs2.length cs.length _ 0 h1 h2 h5 (by omega)]
    exact h.get hs.ok hr hs2.ok hr2 cs.length p 0 hp
  have hrt : rightT ((getI cs p).map (movT to)) = rightT (getI cs p) := by
    unfold rightT
    rw [List.length_map, endI_map (getI cs p) 1 0 (h.cells hs hr hn (by omega) cs.length p 0 hp)]
  unfold Pl.getT
  rw [isP_iff.2 ⟨h1, h2⟩, isP_iff.2 ⟨by omega, by omega⟩, hg, hrt]
  simp only [if_true]
  split <;> rfl
/-! ### What is right -/
theorem Rn.kind (h : Rn cs cs2 to L) {p : Nat} (hp : L p) : kindAt cs2 (valI to p) = kindAt cs p := by
  obtain ⟨q, hl, hq, he, hc⟩ := h.at_ hp
  rw [he, kindAt_at hq, kindAt_at hl, hc, slotM_kind]
theorem Rn.hp (h : Rn cs cs2 to L) {tr tr2 : List Int} (hh : HpOk cs tr) (hsur : ∀ q : Nat, q < cs2.length → ∃ p, L p ∧ valI to p = q) (htr : ∀ x ∈ tr2, ∃ p : Nat, L p ∧ (p : Int) ∈ tr ∧ x = valI to p) (hnd : tr2.Nodup) : HpOk cs2 tr2 := by
  have hs := hh.slots
  refine ⟨fun q hq => ?_, ?_, fun x hx => ?_, hnd⟩
  · obtain ⟨p, hp, he⟩ := hsur q hq
    obtain ⟨q', hl, hq', he', hc⟩ := h.at_ hp
    have : q' = q := by omega
    subst this
    rw [hc]
    have hso := hs p hl
    have hns := h.nself hs.ok hp hl
    rcases hso with ⟨h1, h2, h3, h4⟩ | ⟨h1, h2⟩ | ⟨h1, h2, h3, h4, h5⟩ | ⟨h1, h2, h3, h4, h5, h6⟩
    · refine .inl ⟨by rw [slotM_kind]; exact h1, by rw [slotM_name]; exact h2, ?_⟩
      rw [slotM_n (.inl h1)]
      by_cases hn : cs[p].n = p
      · rw [hn]
        exact h.range2 hp
      · obtain ⟨k, hk, hL⟩ := h.next hs.ok hp (q := cs[p].n) (by rw [leadsI_at hl, if_pos (.inr ⟨h1, hn⟩)]; simp)
        rw [hk]
        exact h.range2 hL
    · rw [slotM_n' (by omega)]
      exact .inr (.inl ⟨h1, h2⟩)
    · obtain ⟨k, hk, hL⟩ := h.next hs.ok hp (q := cs[p].n) (by rw [leadsI_at hl, if_pos (.inl h1)]; simp)
      have hr2 := h.range2 hL
      refine .inr (.inr (.inl ⟨by rw [slotM_kind]; exact h1, by rw [slotM_name]; exact h2, ?_, ?_, ?_⟩))
      · rw [slotM_n (.inr h1), hk]
        exact hr2.1
      · rw [slotM_n (.inr h1), hk]
        exact hr2.2
      · rw [slotM_n (.inr h1), hk, h.kind hL, ← hk]
        exact h5
    · have key : ∀ i : Nat, 1 ≤ i → (i : Int) ≤ cs[p].n → ∃ k : Nat, (p : Int) + i = k ∧ L k ∧ (q' : Int) + i = valI to k := fun i hi hn => by
        have ht := h.top p _ hp (List.getElem?_eq_getElem hl) h1 (i - 1) (by omega)
        obtain ⟨k, hk, hL⟩ := h.next hs.ok hp (q := (p : Int) + 1 + ((i - 1 : Nat) : Int)) (by rw [leadsI_at hl, if_neg (by omega), if_pos h1]; exact List.mem_map.2 ⟨i - 1, List.mem_range.2 (by omega), rfl⟩)
        rw [hk] at ht
        exact ⟨k, by omega, hL, by omega⟩
      rw [slotM_n' (by omega)]
      refine .inr (.inr (.inr ⟨h1, h2, h3, ?_, h5, fun i hi hn => ?_⟩))
      · by_cases h0 : cs[p].n = 0
        · omega
        · obtain ⟨k, hk, hL, hv⟩ := key cs[p].n.toNat (by omega) (by omega)
          have := h.range2 hL
          omega
      · obtain ⟨k, hk, hL, hv⟩ := key i hi hn
        rw [hv, h.kind hL, ← hk]
        exact h6 i hi hn
  · obtain ⟨r, hr⟩ := hh.rank
    classical
    let f : Nat → Nat := fun q => if hq : q < cs2.length then (hsur q hq).choose else 0
    have hf : ∀ q, q < cs2.length → L (f q) ∧ valI to (f q) = q := fun q hq => by
      simp only [f]
      rw [dif_pos hq]
      exact (hsur q hq).choose_spec
    refine ⟨fun q => r (f q), fun q hq x hx => ?_⟩
    obtain ⟨h1, h2⟩ := hf q hq
    rw [← h2, h.leads hs.ok h1] at hx
    obtain ⟨y, hy, he⟩ := List.mem_map.1 hx
    obtain ⟨k, rfl, hL⟩ := h.next hs.ok h1 hy
    have hx2 := h.range2 hL
    obtain ⟨h3, h4⟩ := hf x (by omega)
    have : f x = k := h.inj h3 hL (by rw [h4, he])
    simp only [this]
    exact hr (f q) (h.lt _ h1).1 k hy
  · obtain ⟨p, hp, hpt, rfl⟩ := htr x hx
    obtain ⟨q, hl, hq, he, hc⟩ := h.at_ hp
    have hb := hh.bound _ hpt
    rw [boundB_at hl] at hb
    simp only [Bool.and_eq_true, decide_eq_true_eq] at hb
    have hns := h.nself hs.ok hp hl hb.1
    rw [he] at hns
    rw [he, boundB_at hq, hc, slotM_kind, slotM_n (.inl hb.1)]
    simp only [Bool.and_eq_true, decide_eq_true_eq]
    exact ⟨hb.1, fun e => hb.2 (hns.1 e)⟩
end
end Go.Proofs.Ytnmkffkalnkbbaa.Pl
