/-
  Plain words: heaps whose slots lead round nowhere; places that are followed; terms that are got. No program of Go stands here.
  No condition but the premises of each theorem.
-/
import Derived.Test.YtnmkffkalnkbbaaPhb
namespace Go.Proofs.Ytnmkffkalnkbbaa.Pl
set_option linter.unusedVariables false
set_option linter.unusedSimpArgs false
def isP (n : Nat) (a : Int) : Bool := decide (0 ≤ a) && decide (a < n)
def kindAt (cs : List Cell) (a : Int) : Int := match cs[a.toNat]? with | some s => s.kind | none => 0
def boundB (cs : List Cell) (a : Int) : Bool := decide (0 ≤ a) && match cs[a.toNat]? with | some s => decide (s.kind = 1) && decide (s.n ≠ a) | none => false
theorem isP_nat {n k : Nat} : isP n (k : Int) = decide (k < n) := by
  unfold isP
  rw [decide_eq_true (by omega : (0 : Int) ≤ k), Bool.true_and]
  exact decide_eq_decide.2 (by omega)
theorem isP_iff {n : Nat} {a : Int} : isP n a = true ↔ 0 ≤ a ∧ a < n := by simp [isP]
theorem kindAt_at {cs : List Cell} {k : Nat} (h : k < cs.length) : kindAt cs (k : Int) = cs[k].kind := by
  unfold kindAt
  rw [show ((k : Nat) : Int).toNat = k from rfl, List.getElem?_eq_getElem h]
theorem boundB_at {cs : List Cell} {k : Nat} (h : k < cs.length) : boundB cs (k : Int) = (decide (cs[k].kind = 1) && decide (cs[k].n ≠ k)) := by
  unfold boundB
  rw [show ((k : Nat) : Int).toNat = k from rfl, List.getElem?_eq_getElem h, decide_eq_true (by omega : (0 : Int) ≤ k), Bool.true_and]
theorem boundB_out {cs : List Cell} {a : Int} (h : ¬ (0 ≤ a ∧ a < cs.length)) : boundB cs a = false := by
  unfold boundB
  by_cases h0 : 0 ≤ a
  · rw [List.getElem?_eq_none (by omega)]
    simp
  · simp [h0]
theorem boundB_lt {cs : List Cell} {a : Int} (h : boundB cs a = true) : 0 ≤ a ∧ a < cs.length := by
  by_cases hh : 0 ≤ a ∧ a < cs.length
  · exact hh
  · rw [boundB_out hh] at h; cases h
/-! ### Ranks -/
def IsRk (cs : List Cell) (r : Nat → Nat) : Prop := ∀ p, p < cs.length → ∀ q : Nat, (q : Int) ∈ leadsI cs (p : Int) → r q < r p
def Rk (cs : List Cell) : Prop := ∃ r, IsRk cs r
theorem countP_strict {α : Type} {P Q : α → Bool} {x : α} : ∀ {l : List α}, x ∈ l → P x = true → Q x = false → (∀ y, Q y = true → P y = true) → l.countP Q < l.countP P
  | y :: l, hx, hp, hq, h => by
    rw [List.countP_cons, List.countP_cons]
    have hle : l.countP Q ≤ l.countP P := List.countP_mono_left fun z _ hz => h z hz
    rcases List.mem_cons.1 hx with rfl | hx
    · rw [if_pos hp, hq]
      simp
      omega
    · have ih := countP_strict hx hp hq h
      by_cases h1 : Q y = true
      · rw [if_pos h1, if_pos (h y h1)]; omega
      · rw [if_neg h1]
        split <;> omega
theorem Rk.small {cs : List Cell} (hs : ShOk cs) (h : Rk cs) : ∃ r, IsRk cs r ∧ ∀ p, p < cs.length → r p < cs.length := by
  obtain ⟨r, hr⟩ := h
  refine ⟨fun p => (List.range cs.length).countP fun x => decide (r x < r p), fun p hp q hq => ?_, fun p hp => ?_⟩
  · have h1 := hr p hp q hq
    have h2 := leads_range hs hp hq
    exact countP_strict (x := q) (List.mem_range.2 (by omega)) (by simpa using h1) (by simp) (fun y hy => by simp at hy ⊢; omega)
  · have := countP_strict (l := List.range cs.length) (P := fun _ => true) (Q := fun x => decide (r x < r p)) (x := p) (List.mem_range.2 hp) rfl (by simp) (fun _ _ => rfl)
    simpa using this
/-! ### Following -/
def stepF (cs : List Cell) (a : Int) : Option Int := match cs[a.toNat]? with
  | some s => if (s.kind = 1 ∧ s.n ≠ a) ∨ s.kind = 3 then some s.n else none
  | none => none
def followF (cs : List Cell) : Nat → Int → Int
  | 0, a => a
  | k + 1, a => match stepF cs a with | some b => followF cs k b | none => a
def followC (cs : List Cell) (a : Int) : Int := followF cs cs.length a
def FolN (cs : List Cell) : Nat → Int → Int → Prop
  | 0, a, b => stepF cs a = none ∧ a = b
  | n + 1, a, b => ∃ c, stepF cs a = some c ∧ FolN cs n c b
theorem stepF_at {cs : List Cell} {k : Nat} (h : k < cs.length) : stepF cs (k : Int) = if (cs[k].kind = 1 ∧ cs[k].n ≠ k) ∨ cs[k].kind = 3 then some cs[k].n else none := by
  unfold stepF
  rw [show ((k : Nat) : Int).toNat = k from rfl, List.getElem?_eq_getElem h]
theorem FolN.toF {cs : List Cell} : ∀ {n k : Nat} {a b : Int}, FolN cs n a b → n ≤ k → followF cs k a = b
  | 0, 0, a, b, h, _ => h.2
  | 0, k + 1, a, b, h, _ => by
    rw [followF, h.1]
    exact h.2
  | n + 1, 0, _, _, _, hk => by omega
  | n + 1, k + 1, a, b, ⟨c, h1, h2⟩, hk => by
    rw [followF, h1]
    exact h2.toF (by omega)
theorem FolN.end_ {cs : List Cell} : ∀ {n : Nat} {a b : Int}, FolN cs n a b → stepF cs b = none
  | 0, a, b, h => h.2 ▸ h.1
  | n + 1, a, b, ⟨c, _, h2⟩ => h2.end_
theorem stepF_leads {cs : List Cell} {a c : Int} (h0 : 0 ≤ a) (h1 : a < cs.length) (h : stepF cs a = some c) : leadsI cs a = [c] := by
  obtain ⟨k, rfl⟩ := Int.eq_ofNat_of_zero_le h0
  have hk : k < cs.length := by omega
  rw [stepF_at hk] at h
  rw [leadsI_at hk]
  split at h
  · rename_i hh
    rw [if_pos (by omega)]
    simpa using h
  · cases h
theorem fol_ex {cs : List Cell} {r : Nat → Nat} (hs : ShOk cs) (hr : IsRk cs r) : ∀ (m : Nat) (a : Int), 0 ≤ a → a < cs.length → r a.toNat ≤ m → ∃ n b, n ≤ m ∧ FolN cs n a b ∧ (0 ≤ b ∧ b < cs.length) ∧ r b.toNat ≤ r a.toNat
  | m, a, h0, h1, hm => by
    cases hst : stepF cs a with
    | none => exact ⟨0, a, Nat.zero_le _, ⟨hst, rfl⟩, ⟨h0, h1⟩, Nat.le_refl _⟩
    | some c =>
      have hl := stepF_leads h0 h1 hst
      obtain ⟨k, rfl⟩ := Int.eq_ofNat_of_zero_le h0
      have hk : k < cs.length := by omega
      have hc := leads_range hs hk (q := c) (by rw [hl]; simp)
      have hlt := hr k hk c.toNat (by rw [hl]; simp; omega)
      simp only [Int.toNat_natCast] at hm ⊢
      cases m with
      | zero => omega
      | succ m =>
        obtain ⟨n, b, h2, h3, h4, h5⟩ := fol_ex hs hr m c hc.1 hc.2 (by omega)
        exact ⟨n + 1, b, by omega, ⟨c, hst, h3⟩, h4, by omega⟩
theorem followC_ex {cs : List Cell} (hs : ShOk cs) (hr : Rk cs) {a : Int} (h0 : 0 ≤ a) (h1 : a < cs.length) : ∃ n, FolN cs n a (followC cs a) ∧ (0 ≤ followC cs a ∧ followC cs a < cs.length) := by
  obtain ⟨r, h2, h3⟩ := hr.small hs
  obtain ⟨n, b, h4, h5, h6, h7⟩ := fol_ex hs h2 (r a.toNat) a h0 h1 (Nat.le_refl _)
  have h8 := h3 a.toNat (by omega)
  have : followC cs a = b := h5.toF (by omega)
  rw [this]
  exact ⟨n, h5, h6⟩
theorem followC_rk {cs : List Cell} {r : Nat → Nat} (hs : ShOk cs) (hr : IsRk cs r) {a : Int} (h0 : 0 ≤ a) (h1 : a < cs.length) : r (followC cs a).toNat ≤ r a.toNat := by
  obtain ⟨r2, h2, h3⟩ := Rk.small hs ⟨r, hr⟩
  obtain ⟨n, b, h4, h5, h6, h7⟩ := fol_ex hs h2 (r2 a.toNat) a h0 h1 (Nat.le_refl _)
  obtain ⟨n', b', h4', h5', h6', h7'⟩ := fol_ex hs hr (r a.toNat) a h0 h1 (Nat.le_refl _)
  have h8 := h3 a.toNat (by omega)
  have e1 : followC cs a = b := h5.toF (by omega)
  have e2 : b' = b := by
    have g1 := h5.toF (Nat.le_max_left n n')
    have g2 := h5'.toF (Nat.le_max_right n n')
    rw [g1] at g2
    exact g2.symm
  rw [e1, ← e2]
  exact h7'
/-! ### Terms -/
def argsF (g : Int → Nat → List Cell) (p : Int) (hv : Nat) : Nat → List Cell → List Cell
  | 0, out => out
  | m + 1, out => let o := argsF g p hv m out; if hv + o.length ≤ 200 then o ++ g (p + 1 + m) (hv + o.length) else o
def getF (cs : List Cell) : Nat → Int → Nat → List Cell
  | 0, _, _ => []
  | k + 1, a, hv => match cs[(followC cs a).toNat]? with
    | none => []
    | some s => if s.kind = 1 then [⟨1, ByteArray.empty, followC cs a⟩] else if s.kind = 2 then [⟨2, ByteArray.empty, s.n⟩] else argsF (getF cs k) (followC cs a) hv s.n.toNat [⟨3, s.name, s.n⟩]
theorem argsF_cong {g g' : Int → Nat → List Cell} {p : Int} {hv : Nat} {out : List Cell} : ∀ {m : Nat}, (∀ i : Nat, i < m → ∀ h, g (p + 1 + i) h = g' (p + 1 + i) h) → argsF g p hv m out = argsF g' p hv m out
  | 0, _ => rfl
  | m + 1, h => by
    have ih := argsF_cong (g := g) (g' := g') (p := p) (hv := hv) (out := out) (m := m) fun i hi => h i (by omega)
    simp only [argsF, ih, h m (by omega)]
/-- Whatever is above its rank is enough. -/
theorem getF_rk {cs : List Cell} {r : Nat → Nat} (hs : ShOk cs) (hr : IsRk cs r) : ∀ (k k' : Nat) (a : Int) (hv : Nat), 0 ≤ a → a < cs.length → r a.toNat < k → r a.toNat < k' → getF cs k a hv = getF cs k' a hv
  | 0, _, _, _, _, _, h, _ => by omega
  | _, 0, _, _, _, _, _, h => by omega
  | k + 1, k' + 1, a, hv, h0, h1, hk, hk' => by
    obtain ⟨n, hn, hf0, hf1⟩ := followC_ex hs ⟨r, hr⟩ h0 h1
    have hrk := followC_rk hs hr h0 h1
    obtain ⟨p, hp⟩ := Int.eq_ofNat_of_zero_le hf0
    have hpl : p < cs.length := by omega
    unfold getF
    rw [hp, show ((p : Nat) : Int).toNat = p from rfl, List.getElem?_eq_getElem hpl]
    simp only []
    split
    · rfl
    · split
      · rfl
      · refine argsF_cong fun i hi h => ?_
        by_cases h4 : cs[p].kind = 4
        · have hso := hs p hpl
          unfold SlotOk at hso
          have hl : ((p + 1 + i : Nat) : Int) ∈ leadsI cs (p : Int) := by
            rw [leadsI_at hpl, if_neg (by omega), if_pos h4]
            refine List.mem_map.2 ⟨i, List.mem_range.2 hi, by omega⟩
          have hlt := hr p hpl _ hl
          rw [hp] at hrk
          simp only [Int.toNat_natCast] at hrk
          have e : ((p : Int) + 1 + i) = ((p + 1 + i : Nat) : Int) := by omega
          rw [e]
          refine getF_rk hs hr k k' _ h (by omega) (by omega) ?_ ?_ <;> simp only [Int.toNat_natCast] <;> omega
        · exfalso
          have hso := hs p hpl
          unfold SlotOk at hso
          have h3 : cs[p].kind = 3 := by omega
          have hst := hn.end_
          rw [hp, stepF_at hpl, if_pos (.inr h3)] at hst
          cases hst
def getI (cs : List Cell) (a : Int) : List Cell := getF cs cs.length a 0
def getT (cs : List Cell) (a : Int) : Option (List Cell) := if isP cs.length a = true then (if rightT (getI cs a) = true then some (getI cs a) else none) else none
theorem argsF_len {g : Int → Nat → List Cell} {p : Int} {hv : Nat} {out : List Cell} (ho : hv + out.length ≤ 201) (hg : ∀ a h, h ≤ 200 → h + (g a h).length ≤ 201) : ∀ m, hv + (argsF g p hv m out).length ≤ 201
  | 0 => ho
  | m + 1 => by
    have ih := argsF_len (g := g) (p := p) ho hg m
    rw [argsF]
    split
    · rename_i h
      have := hg (p + 1 + m) _ h
      rw [List.length_append]
      omega
    · exact ih
theorem getF_len {cs : List Cell} : ∀ (k : Nat) (a : Int) (hv : Nat), hv ≤ 200 → hv + (getF cs k a hv).length ≤ 201
  | 0, _, _, h => by simp [getF]; omega
  | k + 1, a, hv, h => by
    unfold getF
    split
    · simp; omega
    · split
      · simp; omega
      · split
        · simp; omega
        · exact argsF_len (by simp; omega) (fun a h hh => getF_len k a h hh) _
/-! ### What is right -/
def SlotR (cs : List Cell) (p : Nat) (s : Cell) : Prop :=
  (s.kind = 1 ∧ s.name.toList = [] ∧ 0 ≤ s.n ∧ s.n < cs.length) ∨ (s.kind = 2 ∧ s.name.toList = [] ∧ -2147483647 ≤ s.n ∧ s.n ≤ 2147483647) ∨
  (s.kind = 3 ∧ s.name.toList = [] ∧ 0 ≤ s.n ∧ s.n < cs.length ∧ kindAt cs s.n = 4) ∨ (s.kind = 4 ∧ 0 ≤ s.n ∧ s.n ≤ 6 ∧ (p : Int) + s.n < cs.length ∧ nameB s.name = true ∧ ∀ i : Nat, 1 ≤ i → (i : Int) ≤ s.n → kindAt cs ((p : Int) + i) ≠ 4)
def SlR (cs : List Cell) : Prop := ∀ (p : Nat) (h : p < cs.length), SlotR cs p cs[p]
theorem SlR.ok {cs : List Cell} (h : SlR cs) : ShOk cs := fun p hp => by
  have := h p hp
  unfold SlotR at this
  unfold SlotOk
  omega
structure HpOk (cs : List Cell) (tr : List Int) : Prop where
  slots : SlR cs
  rank : Rk cs
  bound : ∀ x ∈ tr, boundB cs x = true
  nodup : tr.Nodup
end Go.Proofs.Ytnmkffkalnkbbaa.Pl
