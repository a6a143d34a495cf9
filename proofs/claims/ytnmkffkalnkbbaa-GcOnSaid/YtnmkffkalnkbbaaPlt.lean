/-
  Plain words: terms as rows of cells; which programs are right. No program of Go stands here.
  No condition but the premises of each theorem.
-/
import Derived.Test.YtnmkffkalnkbbaaPlm
import GoSem.Op.String
namespace Go.Proofs.Ytnmkffkalnkbbaa.Pl

structure Cell where
  kind : Int
  name : ByteArray
  n : Int
def sameC (x y : Cell) : Bool := decide (x.kind = y.kind) && (x.name.toList == y.name.toList) && decide (x.n = y.n)
def ltC (x y : Cell) : Bool := decide (x.kind < y.kind) || decide (x.kind = y.kind) && (decide (x.n < y.n) || decide (x.n = y.n) && Op.bytesLess x.name.toList y.name.toList)
def byteBad (b : UInt8) : Bool := decide (b.toNat < 32) || decide (126 < b.toNat) || decide (b.toNat = 39)
def nameB (s : ByteArray) : Bool := !(s.data.toList.any byteBad) && decide (1 ≤ s.size) && decide (s.size ≤ 12)
def cellB (c : Cell) : Bool :=
  if c.kind = 1 then (c.name.toList == []) && decide (0 ≤ c.n) && decide (c.n ≤ 999)
  else if c.kind = 2 then (c.name.toList == []) && decide (-2147483647 ≤ c.n) && decide (c.n ≤ 2147483647)
  else if c.kind = 3 then nameB c.name && decide (0 ≤ c.n) && decide (c.n ≤ 6)
  else false
def stepE (c : Cell) (o : Int) : Int := o - 1 + if c.kind = 3 then c.n else 0
/-- The place behind the term that begins here. -/
def endI : List Cell → Int → Int → Int
  | [], _, _ => -1
  | c :: l, o, i => if cellB c = true then (if stepE c o = 0 then i + 1 else endI l (stepE c o) (i + 1)) else -1
def rightT (t : List Cell) : Bool := decide (1 ≤ t.length) && decide (t.length ≤ 200) && decide (endI t 1 0 = t.length)
def atomT (t : List Cell) : Bool := rightT t && (match t with | c :: _ => decide (c.kind = 3) | [] => false)
def varsI (t : List Cell) : List Int := t.foldl (fun out c => if c.kind = 1 ∧ c.n ∉ out then out ++ [c.n] else out) []
def groundT (t : List Cell) : Bool := decide (((varsI t).length : Int) = 0)
def cmpT : List Cell → List Cell → Int
  | x :: a, y :: b => if sameC x y = true then cmpT a b else if ltC x y = true then -1 else 1
  | _, _ => 0
def sameT : List Cell → List Cell → Bool
  | [], [] => true
  | x :: a, y :: b => sameC x y && sameT a b
  | _, _ => false

theorem stepE_bound {c : Cell} {o : Int} (h : cellB c = true) : o - 1 ≤ stepE c o ∧ stepE c o ≤ o + 5 := by
  unfold stepE
  split
  · rename_i hk
    have h1 : ¬ c.kind = 1 := by omega
    have h2 : ¬ c.kind = 2 := by omega
    simp [cellB, hk] at h
    omega
  · omega
theorem endI_at {t : List Cell} {k : Nat} (h : k < t.length) (o i : Int) : endI (t.drop k) o i = if cellB t[k] = true then (if stepE t[k] o = 0 then i + 1 else endI (t.drop (k + 1)) (stepE t[k] o) (i + 1)) else -1 := by
  rw [List.drop_eq_getElem_cons h]
  rfl
theorem endI_end {t : List Cell} {k : Nat} (h : t.length ≤ k) (o i : Int) : endI (t.drop k) o i = -1 := by
  rw [List.drop_eq_nil_of_le h]
  rfl
theorem varsI_succ {t : List Cell} {k : Nat} (h : k < t.length) : varsI (t.take (k + 1)) = if t[k].kind = 1 ∧ t[k].n ∉ varsI (t.take k) then varsI (t.take k) ++ [t[k].n] else varsI (t.take k) := by
  rw [List.take_succ_eq_append_getElem h]
  unfold varsI
  rw [List.foldl_append]
  rfl
theorem varsI_len (t : List Cell) (k : Nat) : (varsI (t.take k)).length ≤ k := by
  induction k with
  | zero => simp [varsI]
  | succ k ih =>
    by_cases h : k < t.length
    · rw [varsI_succ h]
      split
      · rw [List.length_append]; simp; exact ih
      · omega
    · rw [List.take_of_length_le (by omega)] at ih ⊢
      omega
theorem cmpT_at {a b : List Cell} {k : Nat} (h1 : k < a.length) (h2 : k < b.length) : cmpT (a.drop k) (b.drop k) = if sameC a[k] b[k] = true then cmpT (a.drop (k + 1)) (b.drop (k + 1)) else if ltC a[k] b[k] = true then -1 else 1 := by
  rw [List.drop_eq_getElem_cons h1, List.drop_eq_getElem_cons h2]
  rfl
theorem cmpT_end {a b : List Cell} {k : Nat} (h : ¬ (k < a.length ∧ k < b.length)) : cmpT (a.drop k) (b.drop k) = 0 := by
  by_cases h1 : k < a.length
  · have : b.drop k = [] := List.drop_eq_nil_of_le (by omega)
    rw [this]
    cases a.drop k <;> rfl
  · rw [List.drop_eq_nil_of_le (by omega : a.length ≤ k)]
    cases b.drop k <;> rfl
theorem sameT_at {a b : List Cell} {k : Nat} (h1 : k < a.length) (h2 : k < b.length) : sameT (a.drop k) (b.drop k) = (sameC a[k] b[k] && sameT (a.drop (k + 1)) (b.drop (k + 1))) := by
  rw [List.drop_eq_getElem_cons h1, List.drop_eq_getElem_cons h2]
  rfl
theorem sameT_len : ∀ {a b : List Cell}, sameT a b = true → a.length = b.length
  | [], [], _ => rfl
  | x :: a, y :: b, h => by
    simp only [sameT, Bool.and_eq_true] at h
    simp [sameT_len h.2]
  | [], _ :: _, h => by simp [sameT] at h
  | _ :: _, [], h => by simp [sameT] at h

/-! ### Which programs are right -/
def fewP (atoms : List (List Cell)) (rs : List Rule) : Bool := decide (atoms.length ≤ 60) && decide (rs.length ≤ 150) && atoms.all (fun t => decide (t.length ≤ 210)) && rs.all (fun r => decide (r.pos.length ≤ 60) && decide (r.neg.length ≤ 60))
def ruleR (n : Nat) (r : Rule) : Bool := decide (0 ≤ r.head) && decide (r.head < n) && setI r.pos n && setI r.neg n
/-- Each holds of its place and the one ahead of it. -/
def allAt {α : Type} (p : α → Bool) (q : α → α → Bool) (l : List α) : Prop := ∀ (k : Nat) (x : α), l[k]? = some x → p x = true ∧ ∀ y, 0 < k → l[k - 1]? = some y → q y x = true
structure RightP (atoms : List (List Cell)) (rs : List Rule) : Prop where
  atom : allAt (fun t => atomT t && groundT t) (fun a b => decide (cmpT a b < 0)) atoms
  rule : allAt (ruleR atoms.length) (fun a b => decide (orderI a b < 0)) rs
theorem setI_iff {l : List Int} {n : Int} : setI l n = true ↔ (∀ x ∈ l, 0 ≤ x ∧ x < n) ∧ l.Pairwise (· < ·) := by
  simp [setI]
theorem PrOk.of_may {atoms : List (List Cell)} {rs : List Rule} (hf : fewP atoms rs = true) (hr : RightP atoms rs) : PrOk atoms.length rs := by
  simp only [fewP, Bool.and_eq_true, decide_eq_true_eq, List.all_eq_true] at hf
  obtain ⟨⟨⟨h1, h2⟩, _⟩, h4⟩ := hf
  refine ⟨by omega, by omega, fun r hr' => ?_⟩
  obtain ⟨k, hk⟩ := List.getElem?_of_mem hr'
  have h5 := (hr.rule k r hk).1
  simp only [ruleR, Bool.and_eq_true, decide_eq_true_eq] at h5
  have h6 := (setI_iff.1 h5.1.2).1
  have h7 := (setI_iff.1 h5.2).1
  have h8 := (h4 r hr').1
  exact ⟨⟨⟨h5.1.1.1, h5.1.1.2⟩, h6, h7⟩, by omega⟩
noncomputable def rightPB (atoms : List (List Cell)) (rs : List Rule) : Bool := @decide (RightP atoms rs) (Classical.propDecidable _)
theorem rightPB_t {atoms : List (List Cell)} {rs : List Rule} (h : RightP atoms rs) : true = rightPB atoms rs := by simp [rightPB, h]
theorem rightPB_f {atoms : List (List Cell)} {rs : List Rule} (h : ¬ RightP atoms rs) : false = rightPB atoms rs := by simp [rightPB, h]
theorem rightPB_iff {atoms : List (List Cell)} {rs : List Rule} : rightPB atoms rs = true ↔ RightP atoms rs := by simp [rightPB]
def allTo {α : Type} (p : α → Bool) (q : α → α → Bool) (l : List α) (m : Nat) : Prop := ∀ (k : Nat) (x : α), k < m → l[k]? = some x → p x = true ∧ ∀ y, 0 < k → l[k - 1]? = some y → q y x = true
theorem allTo.zero {α : Type} {p : α → Bool} {q : α → α → Bool} {l : List α} : allTo p q l 0 := fun _ _ h => absurd h (Nat.not_lt_zero _)
theorem allTo.succ {α : Type} {p : α → Bool} {q : α → α → Bool} {l : List α} {m : Nat} (h : allTo p q l m) (hm : m < l.length) (hp : p l[m] = true) (hq : m = 0 ∨ ∃ h : m - 1 < l.length, q l[m - 1] l[m] = true) : allTo p q l (m + 1) := fun k x hk hx => by
  by_cases he : k = m
  · subst he
    have e : l[k] = x := (List.getElem?_eq_some_iff.1 hx).2
    subst e
    refine ⟨hp, fun y h0 hy => ?_⟩
    rcases hq with rfl | ⟨h1, h2⟩
    · omega
    · have e2 : l[k - 1] = y := (List.getElem?_eq_some_iff.1 hy).2
      rw [← e2]
      exact h2
  · exact h k x (by omega) hx
theorem allTo.all {α : Type} {p : α → Bool} {q : α → α → Bool} {l : List α} {m : Nat} (h : allTo p q l m) (hm : l.length ≤ m) : allAt p q l := fun k x hx => h k x (by have := (List.getElem?_eq_some_iff.1 hx).1; omega) hx
theorem allTo.at_ {α : Type} {p : α → Bool} {q : α → α → Bool} {l : List α} {m : Nat} (h : allTo p q l m) {k : Nat} (hk : k < m) (hl : k < l.length) : p l[k] = true := (h k _ hk (List.getElem?_eq_getElem hl)).1
theorem allAt.step {α : Type} {p : α → Bool} {q : α → α → Bool} {l : List α} (h : allAt p q l) {k : Nat} (h0 : 0 < k) (hl : k < l.length) (hl1 : k - 1 < l.length) : q l[k - 1] l[k] = true := (h k _ (List.getElem?_eq_getElem hl)).2 _ h0 (List.getElem?_eq_getElem hl1)
theorem allAt.at_ {α : Type} {p : α → Bool} {q : α → α → Bool} {l : List α} (h : allAt p q l) {k : Nat} (hl : k < l.length) : p l[k] = true := (h k _ (List.getElem?_eq_getElem hl)).1
end Go.Proofs.Ytnmkffkalnkbbaa.Pl
