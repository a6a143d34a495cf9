/-
  Plain laws: proofs by steps, what they tell, and what is taken. No program of Go stands here.
  No condition but the premises of each theorem.
-/
import Derived.Test.YtmkgechdfimfnaaPlr
namespace Go.Proofs.Ytmkgechdfimfnaa.Pl

def findP {α : Type} (p : α → Bool) (xs : List α) : Int := match xs.findIdx? p with | some i => (i : Int) | none => -1
theorem findP_at {α : Type} {p : α → Bool} {xs : List α} {k : Nat} (hk : k < xs.length) (h : p xs[k] = true) (hn : ∀ (i : Nat) (hi : i < xs.length), i < k → p xs[i] = false) : findP p xs = k := by
  have : xs.findIdx? p = some k := by
    rw [List.findIdx?_eq_some_iff_getElem]
    exact ⟨hk, h, fun j hj => by rw [hn j (by omega) hj]; decide⟩
  rw [findP, this]
theorem findP_none {α : Type} {p : α → Bool} {xs : List α} {k : Nat} (hk : xs.length ≤ k) (hn : ∀ (i : Nat) (hi : i < xs.length), i < k → p xs[i] = false) : findP p xs = -1 := by
  have : xs.findIdx? p = none := by
    rw [List.findIdx?_eq_none_iff]
    intro x hx
    obtain ⟨i, hi⟩ := List.getElem?_of_mem hx
    obtain ⟨h1, rfl⟩ := List.getElem?_eq_some_iff.1 hi
    exact hn i h1 (by omega)
  rw [findP, this]
theorem findP_any {α : Type} (p : α → Bool) (xs : List α) : decide (0 ≤ findP p xs) = xs.any p := by
  unfold findP
  cases h : xs.findIdx? p with
  | none =>
    rw [List.findIdx?_eq_none_iff] at h
    symm
    simpa using h
  | some i =>
    rw [List.findIdx?_eq_some_iff_getElem] at h
    obtain ⟨h1, h2, _⟩ := h
    have : xs.any p = true := List.any_eq_true.2 ⟨_, List.getElem_mem h1, h2⟩
    rw [this]
    simp
theorem findP_spec {α : Type} {p : α → Bool} {xs : List α} {k : Nat} (h : findP p xs = k) : ∃ hk : k < xs.length, p xs[k] = true ∧ ∀ (i : Nat) (hi : i < xs.length), i < k → p xs[i] = false := by
  unfold findP at h
  cases h' : xs.findIdx? p with
  | none => rw [h'] at h; simp only at h; omega
  | some i =>
    rw [h'] at h
    simp only at h
    have : i = k := by omega
    subst this
    rw [List.findIdx?_eq_some_iff_getElem] at h'
    obtain ⟨h1, h2, h3⟩ := h'
    exact ⟨h1, h2, fun j hj hji => by have := h3 j hji; simpa using this⟩
theorem mem_add {X l : List Int} {k : Nat} (hk : k < l.length) (h : ∀ x, x ∈ X ↔ x ∈ l.take k) (x : Int) : x ∈ (if l[k] ∈ X then X else X ++ [l[k]]) ↔ x ∈ l.take (k + 1) := by
  rw [List.take_succ_eq_append_getElem hk, List.mem_append]
  split
  · rename_i hm
    rw [h x]
    constructor
    · exact .inl
    · rintro (h1 | h1)
      · exact h1
      · have : x = l[k] := by simpa using h1
        rw [this]
        exact (h _).1 hm
  · rw [List.mem_append, h x]
structure Step where
  rule : Int
  atoms : List Int
def valI (m : List Int) (a : Int) : Int := m.getD a.toNat 0
def areB (m : List Int) (l : List Int) (v : Int) : Bool := l.all fun a => decide (valI m a = v)
def hasB (m : List Int) (l : List Int) (v : Int) : Bool := l.any fun a => decide (valI m a = v)
def setOpen (m : List Int) (l : List Int) : Bool := l.all (fun a => decide (0 ≤ a) && decide (a < m.length) && decide (valI m a = 1)) && decide (l.Pairwise (· < ·)) && decide (0 < l.length)
def meetB (a b : List Int) : Bool := a.any fun x => decide (x ∈ b)
def looseB (m : List Int) (U : List Int) (r : Rule) : Bool := decide (r.head ∈ U) && !(hasB m r.pos 0 || hasB m r.neg 2) && !meetB r.pos U
def unfOk (rs : List Rule) (m U : List Int) : Bool := rs.all fun r => !looseB m U r
def firesB (m : List Int) (r : Rule) : Bool := areB m r.pos 2 && areB m r.neg 0
def stepOk (rs : List Rule) (m : List Int) (s : Step) : Bool := setOpen m s.atoms && (
  if s.rule = -1 then unfOk rs m s.atoms
  else if s.rule < 0 then false
  else match rs[s.rule.toNat]? with
    | some r => decide (s.atoms = [r.head]) && firesB m r
    | none => false)
theorem stepOk_noset {rs : List Rule} {m : List Int} {s : Step} (h : setOpen m s.atoms = false) : stepOk rs m s = false := by rw [stepOk, h, Bool.false_and]
theorem stepOk_small {rs : List Rule} {m : List Int} {s : Step} (h : s.rule < -1) : stepOk rs m s = false := by rw [stepOk, if_neg (by omega), if_pos (by omega), Bool.and_false]
theorem stepOk_big {rs : List Rule} {m : List Int} {s : Step} (h : (rs.length : Int) ≤ s.rule) : stepOk rs m s = false := by
  have : rs.length ≤ s.rule.toNat := by omega
  rw [stepOk, if_neg (by omega), if_neg (by omega), List.getElem?_eq_none this, Bool.and_false]
theorem stepOk_byrule {rs : List Rule} {m : List Int} {s : Step} {k : Nat} (hk : s.rule = (k : Int)) (hl : k < rs.length) : stepOk rs m s = (setOpen m s.atoms && (decide (s.atoms = [rs[k].head]) && firesB m rs[k])) := by
  rw [stepOk, if_neg (by omega), if_neg (by omega), hk, Int.toNat_natCast, List.getElem?_eq_getElem hl]
theorem stepOk_byset {rs : List Rule} {m : List Int} {s : Step} (h : s.rule = -1) : stepOk rs m s = (setOpen m s.atoms && unfOk rs m s.atoms) := by rw [stepOk, if_pos h]
def setAll (m : List Int) (l : List Int) (v : Int) : List Int := l.foldl (fun m a => m.set a.toNat v) m
def tellI (m : List Int) (s : Step) : List Int := setAll m s.atoms (if 0 ≤ s.rule then 2 else 0)
def partly (rs : List Rule) : List Int → List Step → List Int × Nat
  | m, [] => (m, 0)
  | m, s :: l => if stepOk rs m s = true then ((partly rs (tellI m s) l).1, (partly rs (tellI m s) l).2 + 1) else (m, 0)
def startI (n : Nat) : List Int := List.replicate n 1
def supB (m : List Int) (heads : List Int) (r : Rule) : Bool := decide (valI m r.head = 1) && !decide (r.head ∈ heads) && !(hasB m r.pos 0 || hasB m r.neg 2) && !r.pos.any (fun p => !decide (valI m p = 2) && !decide (p ∈ heads))
def heldL (rs : List Rule) (m : List Int) : List Int → List Int → Option (List Int)
  | heads, [] => some heads
  | heads, i :: l => if i < 0 then none else match rs[i.toNat]? with
    | some r => if supB m heads r = true then heldL rs m (heads ++ [r.head]) l else none
    | none => none
def heldB (rs : List Rule) (m l : List Int) : Bool := match heldL rs m [] l with
  | some heads => (List.range m.length).all fun (a : Nat) => !(decide (m.getD a 0 = 1) && !decide ((a : Int) ∈ heads))
  | none => false
section
variable {rs : List Rule} {m heads l : List Int} {i : Nat}
theorem heldL_go (hi : i < l.length) {k : Nat} (hk : l[i] = (k : Int)) (hlt : k < rs.length) (hs : supB m heads rs[k] = true) : heldL rs m heads (l.drop i) = heldL rs m (heads ++ [rs[k].head]) (l.drop (i + 1)) := by
  rw [List.drop_eq_getElem_cons hi, heldL, hk, if_neg (by omega)]
  simp [hlt, hs]
theorem heldL_stop (hi : i < l.length) {k : Nat} (hk : l[i] = (k : Int)) (hlt : k < rs.length) (hs : supB m heads rs[k] = false) : heldL rs m heads (l.drop i) = none := by
  rw [List.drop_eq_getElem_cons hi, heldL, hk, if_neg (by omega)]
  simp [hlt, hs]
theorem heldL_neg (hi : i < l.length) (h : l[i] < 0) : heldL rs m heads (l.drop i) = none := by
  rw [List.drop_eq_getElem_cons hi, heldL, if_pos h]
theorem heldL_big (hi : i < l.length) (h : (rs.length : Int) ≤ l[i]) : heldL rs m heads (l.drop i) = none := by
  have : rs.length ≤ l[i].toNat := by omega
  rw [List.drop_eq_getElem_cons hi, heldL, if_neg (by omega)]
  simp [this]
end
def leftB (rs : List Rule) (m : List Int) : Bool := rs.any fun r => decide (valI m r.head = 1) && firesB m r
def checkI (rs : List Rule) (n : Nat) (l : List Step) (h : List Int) : Option (List Int) :=
  if (partly rs (startI n) l).2 = l.length ∧ heldB rs (partly rs (startI n) l).1 h = true ∧ leftB rs (partly rs (startI n) l).1 = false then some (partly rs (startI n) l).1 else none

/-! ### What is told -/
theorem valI_nat (m : List Int) (a : Nat) : valI m (a : Int) = m.getD a 0 := rfl
theorem setAll_len (v : Int) : ∀ (l m : List Int), (setAll m l v).length = m.length
  | [], _ => rfl
  | a :: l, m => by
    show (setAll (m.set a.toNat v) l v).length = _
    rw [setAll_len v l, List.length_set]
theorem setAll_snoc (m l : List Int) (v : Int) {k : Nat} (h : k < l.length) : setAll m (l.take (k + 1)) v = (setAll m (l.take k) v).set l[k].toNat v := by
  rw [List.take_succ_eq_append_getElem h, setAll, List.foldl_append]
  rfl
theorem setAll_mem {v : Int} : ∀ {l m : List Int} {x : Int}, x ∈ setAll m l v → x = v ∨ x ∈ m
  | [], _, _, h => .inr h
  | a :: l, m, x, h => by
    rcases setAll_mem (l := l) (m := m.set a.toNat v) h with h1 | h1
    · exact .inl h1
    · rcases List.mem_or_eq_of_mem_set h1 with h2 | h2
      · exact .inr h2
      · exact .inl h2
theorem tellI_mem {m : List Int} {s : Step} (h : ∀ x ∈ m, 0 ≤ x ∧ x ≤ 2) : ∀ x ∈ tellI m s, 0 ≤ x ∧ x ≤ 2 := fun x hx => by
  rcases setAll_mem hx with h1 | h1
  · rw [h1]; split <;> omega
  · exact h x h1
theorem startI_mem {n : Nat} : ∀ x ∈ startI n, 0 ≤ x ∧ x ≤ 2 := fun x hx => by
  rw [List.eq_of_mem_replicate hx]; omega
theorem tellI_len (m : List Int) (s : Step) : (tellI m s).length = m.length := setAll_len _ _ _
theorem setAll_get (v : Int) (a : Nat) : ∀ (l m : List Int), (∀ x ∈ l, 0 ≤ x) → a < m.length → (setAll m l v).getD a 0 = if (a : Int) ∈ l then v else m.getD a 0
  | [], m, _, _ => by simp [setAll]
  | x :: l, m, h, ha => by
    show (setAll (m.set x.toNat v) l v).getD a 0 = _
    rw [setAll_get v a l (m.set x.toNat v) (fun y hy => h y (by simp [hy])) (by simpa using ha)]
    have hx := h x (by simp)
    by_cases hl : (a : Int) ∈ l
    · simp [hl]
    · rw [if_neg hl]
      by_cases hax : (a : Int) = x
      · have : x.toNat = a := by omega
        simp [hax, this, ha]
      · have : x.toNat ≠ a := by omega
        rw [if_neg (by simp [hax, hl])]
        simp [List.getD_eq_getElem?_getD, List.getElem?_set_ne this]
theorem setOpen_iff {m l : List Int} : setOpen m l = true ↔ (∀ a ∈ l, (0 ≤ a ∧ a < m.length) ∧ valI m a = 1) ∧ l.Pairwise (· < ·) ∧ 0 < l.length := by
  simp [setOpen, and_assoc]
theorem areB_iff {m l : List Int} {v : Int} : areB m l v = true ↔ ∀ a ∈ l, valI m a = v := by simp [areB]
theorem hasB_iff {m l : List Int} {v : Int} : hasB m l v = true ↔ ∃ a ∈ l, valI m a = v := by simp [hasB]
theorem hasB_false {m l : List Int} {v : Int} : hasB m l v = false ↔ ∀ a ∈ l, valI m a ≠ v := by
  rw [Bool.eq_false_iff, Ne, hasB_iff]
  simp
theorem tell_val {m : List Int} {s : Step} (h : setOpen m s.atoms = true) {a : Int} (h0 : 0 ≤ a) (ha : a < m.length) : valI (tellI m s) a = if a ∈ s.atoms then (if 0 ≤ s.rule then 2 else 0) else valI m a := by
  obtain ⟨k, rfl⟩ := Int.eq_ofNat_of_zero_le h0
  rw [valI_nat, valI_nat]
  exact setAll_get _ k s.atoms m (fun x hx => (((setOpen_iff.1 h).1 x hx).1).1) (by omega)

section
variable {n : Nat} {rs : List Rule}
theorem gam_in (h : PrOk n rs) {so : List Bool} (S : Int → Prop) (hS : ∀ r ∈ rs, (∀ p ∈ r.neg, ¬ atB so p = true) → (∀ p ∈ r.pos, S p ∧ atB (gam n rs so) p = true) → S r.head) {a : Int} (ha : 0 ≤ a ∧ a < n) (hat : atB (gam n rs so) a = true) : S a := by
  obtain ⟨k, rfl⟩ := Int.eq_ofNat_of_zero_le ha.1
  have hkn : k < n := by omega
  have hd := ((gam_is h so).iff (h.filter _) hkn).1 hat
  have := hd (fun x => (0 ≤ x ∧ x < n) → S x ∧ atB (gam n rs so) x = true) (fun r hr hp => by
    intro hx
    obtain ⟨h1, h2⟩ := List.mem_filter.1 hr
    have hneg : ∀ p ∈ r.neg, ¬ atB so p = true := any_false_iff.1 (by simpa using h2)
    have hpos : ∀ p ∈ r.pos, S p ∧ atB (gam n rs so) p = true := fun p hp' => hp p hp' ((h.rule r h1).1.2.1 p hp')
    refine ⟨hS r h1 hneg hpos, ?_⟩
    have := (gam_rule h so (a := r.head.toNat) (by omega)).2 ⟨r, h1, by omega, fun p hp' => (hpos p hp').2, hneg⟩
    rwa [Int.toNat_of_nonneg hx.1] at this)
  exact (this ha).1
theorem gam_mk (h : PrOk n rs) {so : List Bool} {r : Rule} (hr : r ∈ rs) (hn : ∀ p ∈ r.neg, ¬ atB so p = true) (hp : ∀ p ∈ r.pos, atB (gam n rs so) p = true) : atB (gam n rs so) r.head = true := by
  have hh := (h.rule r hr).1.1
  have := (gam_rule h so (a := r.head.toNat) (by omega)).2 ⟨r, hr, by omega, hp, hn⟩
  rwa [Int.toNat_of_nonneg hh.1] at this

/-- What is told is so in the model. -/
structure Sound (n : Nat) (rs : List Rule) (m : List Int) : Prop where
  len : m.length = n
  v : ∀ a : Int, 0 ≤ a → a < n → valI m a = 0 ∨ valI m a = 1 ∨ valI m a = 2
  t : ∀ a : Int, 0 ≤ a → a < n → valI m a = 2 → atB (lowB n rs) a = true
  f : ∀ a : Int, 0 ≤ a → a < n → valI m a = 0 → ¬ atB (gam n rs (lowB n rs)) a = true
theorem startI_val {a : Int} (h0 : 0 ≤ a) (ha : a < n) : valI (startI n) a = 1 := by
  have : a.toNat < n := by omega
  simp [valI, startI, this]
theorem Sound.start : Sound n rs (startI n) := ⟨by simp [startI], fun a h0 ha => .inr (.inl (startI_val h0 ha)), fun a h0 ha h => by rw [startI_val h0 ha] at h; omega, fun a h0 ha h => by rw [startI_val h0 ha] at h; omega⟩
theorem stepOk_set {m : List Int} {s : Step} (h : stepOk rs m s = true) : setOpen m s.atoms = true := by
  unfold stepOk at h
  rw [Bool.and_eq_true] at h
  exact h.1
theorem stepOk_rule {m : List Int} {s : Step} (h : stepOk rs m s = true) (h0 : 0 ≤ s.rule) : ∃ hl : s.rule.toNat < rs.length, s.atoms = [rs[s.rule.toNat].head] ∧ firesB m rs[s.rule.toNat] = true := by
  unfold stepOk at h
  rw [Bool.and_eq_true, if_neg (by omega), if_neg (by omega)] at h
  have h2 := h.2
  split at h2
  · rename_i r hr
    obtain ⟨hl, rfl⟩ := List.getElem?_eq_some_iff.1 hr
    simp only [Bool.and_eq_true, decide_eq_true_eq] at h2
    exact ⟨hl, h2.1, h2.2⟩
  · cases h2
theorem stepOk_unf {m : List Int} {s : Step} (h : stepOk rs m s = true) (h0 : s.rule < 0) : s.rule = -1 ∧ unfOk rs m s.atoms = true := by
  unfold stepOk at h
  rw [Bool.and_eq_true] at h
  have h2 := h.2
  by_cases h1 : s.rule = -1
  · rw [if_pos h1] at h2; exact ⟨h1, h2⟩
  · rw [if_neg h1, if_pos h0] at h2; cases h2
theorem low_sub_high (h : PrOk n rs) {a : Int} (h0 : 0 ≤ a) (hl : atB (lowB n rs) a = true) : atB (gam n rs (lowB n rs)) a = true := by
  have := low_high h a.toNat (by rw [Int.toNat_of_nonneg h0]; exact hl)
  rwa [Int.toNat_of_nonneg h0] at this
theorem Sound.step (h : PrOk n rs) {m : List Int} (hm : Sound n rs m) {s : Step} (hs : stepOk rs m s = true) : Sound n rs (tellI m s) := by
  have hset := stepOk_set hs
  have hval : ∀ a : Int, 0 ≤ a → a < n → valI (tellI m s) a = if a ∈ s.atoms then (if 0 ≤ s.rule then 2 else 0) else valI m a := fun a h0 ha => tell_val hset h0 (by rw [hm.len]; exact ha)
  refine ⟨by rw [tellI_len, hm.len], fun a h0 ha => ?_, fun a h0 ha hv => ?_, fun a h0 ha hv => ?_⟩
  · rw [hval a h0 ha]
    split
    · split <;> simp
    · exact hm.v a h0 ha
  · rw [hval a h0 ha] at hv
    by_cases hin : a ∈ s.atoms
    · rw [if_pos hin] at hv
      by_cases hr : 0 ≤ s.rule
      · obtain ⟨hl, h1, h2⟩ := stepOk_rule hs hr
        rw [h1] at hin
        have hah : a = rs[s.rule.toNat].head := by simpa using hin
        have hmem : rs[s.rule.toNat] ∈ rs := List.getElem_mem hl
        have hrk := (h.rule _ hmem).1
        unfold firesB at h2
        rw [Bool.and_eq_true, areB_iff, areB_iff] at h2
        have key := gam_mk h (so := gam n rs (lowB n rs)) hmem (fun p hp => hm.f p (hrk.2.2 p hp).1 (hrk.2.2 p hp).2 (h2.2 p hp)) (fun p hp => by
          rw [lowB_fix h]
          exact hm.t p (hrk.2.1 p hp).1 (hrk.2.1 p hp).2 (h2.1 p hp))
        rw [lowB_fix h] at key
        rw [hah]
        exact key
      · rw [if_neg hr] at hv; omega
    · rw [if_neg hin] at hv
      exact hm.t a h0 ha hv
  · rw [hval a h0 ha] at hv
    by_cases hin : a ∈ s.atoms
    · rw [if_pos hin] at hv
      by_cases hr : 0 ≤ s.rule
      · rw [if_pos hr] at hv; omega
      · obtain ⟨_, hu⟩ := stepOk_unf hs (by omega)
        intro hat
        have := gam_in h (so := lowB n rs) (fun x => x ∉ s.atoms) (fun r hr' hn hp hh => by
          have hrk := (h.rule r hr').1
          have h1 := List.all_eq_true.1 hu r hr'
          have hloose : looseB m s.atoms r = true := by
            unfold looseB
            rw [Bool.and_eq_true, Bool.and_eq_true]
            refine ⟨⟨decide_eq_true hh, ?_⟩, ?_⟩
            · rw [Bool.not_eq_true', Bool.or_eq_false_iff, hasB_false, hasB_false]
              exact ⟨fun p hp' hv0 => hm.f p (hrk.2.1 p hp').1 (hrk.2.1 p hp').2 hv0 (hp p hp').2, fun p hp' hv2 => hn p hp' (hm.t p (hrk.2.2 p hp').1 (hrk.2.2 p hp').2 hv2)⟩
            · simp only [meetB, Bool.not_eq_true', List.any_eq_false, decide_eq_true_eq]
              exact fun p hp' => (hp p hp').1
          rw [hloose] at h1
          cases h1) ⟨h0, ha⟩ hat
        exact this hin
    · rw [if_neg hin] at hv
      exact hm.f a h0 ha hv
theorem partly_sound (h : PrOk n rs) : ∀ (l : List Step) {m : List Int}, Sound n rs m → Sound n rs (partly rs m l).1
  | [], _, hm => hm
  | s :: l, m, hm => by
    rw [partly]
    split
    · rename_i hs
      exact partly_sound h l (hm.step h hs)
    · exact hm
theorem partly_len : ∀ (l : List Step) (m : List Int), (partly rs m l).1.length = m.length
  | [], _ => rfl
  | s :: l, m => by
    rw [partly]
    split
    · show (partly rs (tellI m s) l).1.length = _
      rw [partly_len l, tellI_len]
    · rfl
theorem partly_le : ∀ (l : List Step) (m : List Int), (partly rs m l).2 ≤ l.length
  | [], _ => Nat.le_refl _
  | s :: l, m => by
    rw [partly]
    split
    · have := partly_le l (tellI m s)
      simp only [List.length_cons]
      omega
    · exact Nat.zero_le _
theorem partly_mem : ∀ (l : List Step) {m : List Int}, (∀ x ∈ m, 0 ≤ x ∧ x ≤ 2) → ∀ x ∈ (partly rs m l).1, 0 ≤ x ∧ x ≤ 2
  | [], _, h => h
  | s :: l, m, h => by
    rw [partly]
    split
    · exact partly_mem l (tellI_mem h)
    · exact h
/-- For the walks: step by step. -/
theorem partly_go {m : List Int} {l : List Step} {k : Nat} (hk : k < l.length) (h : stepOk rs m l[k] = true) : (partly rs m (l.drop k)).1 = (partly rs (tellI m l[k]) (l.drop (k + 1))).1 ∧ (partly rs m (l.drop k)).2 = (partly rs (tellI m l[k]) (l.drop (k + 1))).2 + 1 := by
  rw [List.drop_eq_getElem_cons hk, partly, if_pos h]
  exact ⟨rfl, rfl⟩
theorem partly_stop {m : List Int} {l : List Step} {k : Nat} (hk : k < l.length) (h : stepOk rs m l[k] = false) : partly rs m (l.drop k) = (m, 0) := by
  rw [List.drop_eq_getElem_cons hk, partly, if_neg (by rw [h]; decide)]
theorem partly_end {m : List Int} {l : List Step} {k : Nat} (hk : l.length ≤ k) : partly rs m (l.drop k) = (m, 0) := by
  rw [List.drop_eq_nil_of_le hk]
  rfl

/-! ### What holds up what is open -/
theorem heldL_inv (Q : List Int → Prop) {m : List Int} (hstep : ∀ heads r, r ∈ rs → supB m heads r = true → Q heads → Q (heads ++ [r.head])) : ∀ (l heads : List Int) {out : List Int}, heldL rs m heads l = some out → Q heads → Q out
  | [], heads, out, h, hq => by
    simp only [heldL, Option.some.injEq] at h
    rw [← h]; exact hq
  | i :: l, heads, out, h, hq => by
    rw [heldL] at h
    split at h
    · cases h
    · split at h
      · rename_i r hr
        split at h
        · rename_i hs
          exact heldL_inv Q hstep l _ h (hstep heads r (List.mem_of_getElem? hr) hs hq)
        · cases h
      · cases h
theorem supB_iff {m heads : List Int} {r : Rule} : supB m heads r = true ↔ valI m r.head = 1 ∧ r.head ∉ heads ∧ (∀ p ∈ r.pos, valI m p ≠ 0) ∧ (∀ p ∈ r.neg, valI m p ≠ 2) ∧ ∀ p ∈ r.pos, valI m p = 2 ∨ p ∈ heads := by
  unfold supB
  simp only [Bool.and_eq_true, Bool.not_eq_true', decide_eq_true_eq, decide_eq_false_iff_not, Bool.or_eq_false_iff, hasB_false, List.any_eq_false, not_and, and_assoc]
  constructor
  · rintro ⟨h1, h2, h3, h4, h5⟩
    exact ⟨h1, h2, h3, h4, fun p hp => by
      by_cases h6 : valI m p = 2
      · exact .inl h6
      · exact .inr (by have := h5 p hp h6; simpa using this)⟩
  · rintro ⟨h1, h2, h3, h4, h5⟩
    exact ⟨h1, h2, h3, h4, fun p hp h6 => by
      rcases h5 p hp with h7 | h7
      · exact absurd h7 h6
      · simpa using h7⟩

def soB (n : Nat) (m : List Int) (p : Int → Bool) : List Bool := (List.range n).map fun (i : Nat) => p (m.getD i 0)
theorem soB_at {m : List Int} {p : Int → Bool} {a : Int} (h0 : 0 ≤ a) (ha : a < n) : atB (soB n m p) a = p (valI m a) := by
  have : a.toNat < n := by omega
  simp [atB, soB, this, valI]
theorem soB_in {m : List Int} {p : Int → Bool} {i : Nat} (h : atB (soB n m p) (i : Int) = true) : i < n ∧ p (m.getD i 0) = true := by
  have h1 := atB_lt h
  have h2 : i < n := by simpa [soB] using h1
  have := soB_at (m := m) (p := p) (a := (i : Int)) (n := n) (by omega) (by omega)
  rw [h] at this
  exact ⟨h2, this.symm⟩
/-- A proof that is taken is the model. -/
theorem check_model (h : PrOk n rs) {l : List Step} {hs m : List Int} (hc : checkI rs n l hs = some m) : m = modelI n rs := by
  unfold checkI at hc
  split at hc
  case isFalse => cases hc
  rename_i hc'
  obtain ⟨_, hheld, hleft⟩ := hc'
  have hm : Sound n rs m := by
    have := partly_sound h l (m := startI n) Sound.start
    cases hc
    exact this
  have hm' : (partly rs (startI n) l).1 = m := by cases hc; rfl
  rw [hm'] at hheld hleft
  clear hm' hc
  unfold heldB at hheld
  split at hheld
  case h_2 => cases hheld
  rename_i heads hheads
  -- T: what is so; X: what is so or open
  have hT : ∀ a : Int, 0 ≤ a → a < n → atB (soB n m (fun v => decide (v = 2))) a = decide (valI m a = 2) := fun a h0 ha => soB_at h0 ha
  have hX : ∀ a : Int, 0 ≤ a → a < n → atB (soB n m (fun v => !decide (v = 0))) a = !decide (valI m a = 0) := fun a h0 ha => soB_at h0 ha
  have h1 : SubB (gam n rs (soB n m (fun v => !decide (v = 0)))) (soB n m (fun v => decide (v = 2))) := fun i hi => by
    have hin : i < n := by have := atB_lt hi; rwa [gam_len] at this
    rw [hT i (by omega) (by omega), decide_eq_true_eq]
    refine gam_in h (fun x => valI m x = 2) (fun r hr hn hp => ?_) ⟨by omega, by omega⟩ hi
    have hrk := (h.rule r hr).1
    have hneg : ∀ p ∈ r.neg, valI m p = 0 := fun p hp' => by
      have := hn p hp'
      rw [hX p (hrk.2.2 p hp').1 (hrk.2.2 p hp').2] at this
      simpa using this
    have hpos : ∀ p ∈ r.pos, valI m p = 2 := fun p hp' => (hp p hp').1
    rcases hm.v r.head hrk.1.1 hrk.1.2 with hv | hv | hv
    · exfalso
      refine hm.f r.head hrk.1.1 hrk.1.2 hv (low_sub_high h hrk.1.1 ?_)
      have key := gam_mk h (so := gam n rs (lowB n rs)) hr (fun p hp' => hm.f p (hrk.2.2 p hp').1 (hrk.2.2 p hp').2 (hneg p hp')) (fun p hp' => by
        rw [lowB_fix h]
        exact hm.t p (hrk.2.1 p hp').1 (hrk.2.1 p hp').2 (hpos p hp'))
      rwa [lowB_fix h] at key
    · exfalso
      have h2 := List.any_eq_false.1 hleft r hr
      refine h2 ?_
      rw [hv, firesB, areB_iff.2 hpos, areB_iff.2 hneg]
      rfl
    · exact hv
  have hTl : SubB (soB n m (fun v => decide (v = 2))) (lowB n rs) := fun i hi => by
    obtain ⟨h2, h3⟩ := soB_in hi
    exact hm.t i (by omega) (by omega) (by simpa [valI] using h3)
  have hlh := low_high h
  have h2 : SubB (soB n m (fun v => !decide (v = 0))) (gam n rs (soB n m (fun v => decide (v = 2)))) := fun i hi => by
    obtain ⟨hin, hv⟩ := soB_in hi
    have hv0 : m.getD i 0 ≠ 0 := by simpa using hv
    have tin : ∀ a : Int, 0 ≤ a → a < n → valI m a = 2 → atB (gam n rs (soB n m (fun v => decide (v = 2)))) a = true := fun a h0 ha hv2 => by
      have e1 := low_sub_high h h0 (hm.t a h0 ha hv2)
      have := gam_anti h hTl a.toNat (by rw [Int.toNat_of_nonneg h0]; exact e1)
      rwa [Int.toNat_of_nonneg h0] at this
    rcases hm.v i (by omega) (by omega) with hv | hv | hv
    · exact absurd hv hv0
    · -- open: held
      have h3 := List.all_eq_true.1 hheld i (List.mem_range.2 (by rw [hm.len]; exact hin))
      rw [valI_nat] at hv
      have h4 : (i : Int) ∈ heads := by
        rw [hv] at h3
        simpa using h3
      refine heldL_inv (fun hd => ∀ x ∈ hd, atB (gam n rs (soB n m (fun v => decide (v = 2)))) x = true) (fun hd r hr hsup hq x hx => ?_) hs [] hheads (by simp) _ h4
      rcases List.mem_append.1 hx with hx | hx
      · exact hq x hx
      · have hxr : x = r.head := by simpa using hx
        subst hxr
        have hrk := (h.rule r hr).1
        obtain ⟨s1, s2, s3, s4, s5⟩ := supB_iff.1 hsup
        refine gam_mk h hr (fun p hp => ?_) (fun p hp => ?_)
        · rw [hT p (hrk.2.2 p hp).1 (hrk.2.2 p hp).2, decide_eq_true_eq]
          exact s4 p hp
        · rcases s5 p hp with h6 | h6
          · exact tin p (hrk.2.1 p hp).1 (hrk.2.1 p hp).2 h6
          · exact hq p h6
    · exact tin i (by omega) (by omega) hv
  have halt : ∀ k, SubB (altB n rs k) (soB n m (fun v => decide (v = 2)))
    := fun k => by
    induction k with
    | zero => exact fun i hi => h1 i (gam_anti' h (fun j hj _ => by rw [atB_nat]; simp [hj]) i hi)
    | succ k ih => exact fun i hi => h1 i (gam_anti h (fun j hj => gam_anti h ih j (h2 j hj)) i hi)
  have hlow : SubB (lowB n rs) (soB n m (fun v => decide (v = 2))) := halt n
  refine List.ext_getElem? fun i => ?_
  by_cases hi : i < n
  · rw [model_get hi]
    have hget : m[i]? = some (m.getD i 0) := by
      have : i < m.length := by rw [hm.len]; exact hi
      simp [this]
    rw [hget]
    congr 1
    rcases hm.v i (by omega) (by omega) with hv | hv | hv
    · have e1 := hm.f i (by omega) (by omega) hv
      have e2 : ¬ atB (lowB n rs) (i : Int) = true := fun hh => e1 (hlh i hh)
      rw [if_neg e2, if_neg e1]
      exact hv
    · have e2 : ¬ atB (lowB n rs) (i : Int) = true := fun hh => by
        have := hlow i hh
        rw [hT i (by omega) (by omega), hv] at this
        simp at this
      have e1 : atB (gam n rs (lowB n rs)) (i : Int) = true := gam_anti h hlow i (h2 i (by rw [hX i (by omega) (by omega), hv]; rfl))
      rw [if_neg e2, if_pos e1]
      exact hv
    · rw [if_pos (hm.t i (by omega) (by omega) hv)]
      exact hv
  · rw [List.getElem?_eq_none (by rw [hm.len]; omega), List.getElem?_eq_none (by rw [modelI_len]; omega)]
end
end Go.Proofs.Ytmkgechdfimfnaa.Pl
