/-
  Plain words: programs by numbers, sets as rows of Bools, and what the functions on them compute. No program of Go stands here.
  No condition.
-/
namespace Go.Proofs.Ytnmkffkalnkbbaa.Pl

structure Rule where
  head : Int
  pos : List Int
  neg : List Int

/-- What a row has in a place; no, if it has none. -/
def atB (l : List Bool) (i : Int) : Bool := l.getD i.toNat false
def allB (l : List Bool) (ns : List Int) : Bool := ns.all (atB l)
def anyB (l : List Bool) (ns : List Int) : Bool := ns.any (atB l)

theorem all_take_succ {α : Type} (p : α → Bool) (l : List α) (k : Nat) (h : k < l.length) : (l.take (k + 1)).all p = ((l.take k).all p && p l[k]) := by
  rw [List.take_succ_eq_append_getElem h, List.all_append]
  simp
theorem any_take_succ {α : Type} (p : α → Bool) (l : List α) (k : Nat) (h : k < l.length) : (l.take (k + 1)).any p = ((l.take k).any p || p l[k]) := by
  rw [List.take_succ_eq_append_getElem h, List.any_append]
  simp
theorem all_of_take {α : Type} (p : α → Bool) (l : List α) (k : Nat) (h : l.length ≤ k) (ht : (l.take k).all p = true) : l.all p = true := by
  rwa [List.take_of_length_le h] at ht
theorem any_of_take {α : Type} (p : α → Bool) (l : List α) (k : Nat) (h : l.length ≤ k) (ht : (l.take k).any p = false) : l.any p = false := by
  rwa [List.take_of_length_le h] at ht
theorem all_false_at {α : Type} (p : α → Bool) (l : List α) (k : Nat) (h : k < l.length) (hp : p l[k] = false) : l.all p = false := by
  rw [List.all_eq_false]
  exact ⟨l[k], List.getElem_mem h, by simp [hp]⟩
theorem any_true_at {α : Type} (p : α → Bool) (l : List α) (k : Nat) (h : k < l.length) (hp : p l[k] = true) : l.any p = true := by
  rw [List.any_eq_true]
  exact ⟨l[k], List.getElem_mem h, hp⟩

/-- Two rows are the same, k places in. -/
theorem eq_of_take {α : Type} {a b : List α} {k : Nat} (hl : a.length = b.length) (hk : a.length ≤ k) (h : a.take k = b.take k) : a = b := by
  rw [List.take_of_length_le hk, List.take_of_length_le (by omega)] at h
  exact h
theorem take_eq_succ {α : Type} {a b : List α} {k : Nat} (h1 : k < a.length) (h2 : k < b.length) (h : a.take k = b.take k) (he : a[k] = b[k]) : a.take (k + 1) = b.take (k + 1) := by
  rw [List.take_succ_eq_append_getElem h1, List.take_succ_eq_append_getElem h2, h, he]
theorem ne_of_at {α : Type} {a b : List α} {k : Nat} (h1 : k < a.length) (h2 : k < b.length) (h : ¬ a[k] = b[k]) : ¬ a = b := fun hh => by
  subst hh
  exact h rfl

def isB (m : List Int) (i what : Int) : Bool := decide (m[i.toNat]? = some what)
def setB (m : List Int) (n : Nat) (what : Int) : List Bool := (List.range n).map fun (i : Nat) => isB m (i : Int) what
def failsB (r : Rule) (m : List Int) : Bool := r.pos.any (isB m · 0) || r.neg.any (isB m · 2)
def rowI : List Int → List Int → Int
  | x :: a, y :: b => if x = y then rowI a b else x - y
  | a, b => (a.length : Int) - b.length
def orderI (a b : Rule) : Int := if a.head ≠ b.head then a.head - b.head else if rowI a.pos b.pos ≠ 0 then rowI a.pos b.pos else rowI a.neg b.neg
def placeI (l : List Int) (n : Int) : Int := if n ∈ l then (l.idxOf n : Int) else -1
/-- Is a row a set of numbers below one? -/
def setI (l : List Int) (n : Int) : Bool := l.all (fun x => decide (0 ≤ x) && decide (x < n)) && decide (l.Pairwise (· < ·))

theorem rowI_drop {a b : List Int} {k : Nat} (h1 : k < a.length) (h2 : k < b.length) (he : a[k] = b[k]) : rowI (a.drop k) (b.drop k) = rowI (a.drop (k + 1)) (b.drop (k + 1)) := by
  rw [List.drop_eq_getElem_cons h1, List.drop_eq_getElem_cons h2]
  simp [rowI, he]
theorem rowI_at {a b : List Int} {k : Nat} (h1 : k < a.length) (h2 : k < b.length) (he : ¬ a[k] = b[k]) : rowI (a.drop k) (b.drop k) = a[k] - b[k] := by
  rw [List.drop_eq_getElem_cons h1, List.drop_eq_getElem_cons h2]
  simp [rowI, he]
theorem rowI_end {a b : List Int} {k : Nat} (h : ¬ (k < a.length ∧ k < b.length)) (h1 : k ≤ a.length) (h2 : k ≤ b.length) : rowI (a.drop k) (b.drop k) = (a.length : Int) - b.length := by
  by_cases hk : k < a.length
  · have hb : b.length = k := by omega
    have : b.drop k = [] := List.drop_eq_nil_of_le (by omega)
    rw [this, List.drop_eq_getElem_cons hk]
    simp [rowI]
    omega
  · have ha : a.length = k := by omega
    have : a.drop k = [] := List.drop_eq_nil_of_le (by omega)
    rw [this]
    simp [rowI]
    omega
theorem idxOf_at {l : List Int} {n : Int} {k : Nat} (hk : k < l.length) (h : l[k] = n) (hn : n ∉ l.take k) : l.idxOf n = k := by
  have he : l = l.take k ++ n :: l.drop (k + 1) := by
    rw [← h, List.getElem_cons_drop, List.take_append_drop]
  have hl : (l.take k).length = k := by simp; omega
  rw [he, List.idxOf_append, if_neg hn]
  simp
  omega
theorem mem_take_succ {l : List Int} {n : Int} {k : Nat} (hk : k < l.length) (hn : n ∉ l.take k) (h : ¬ l[k] = n) : n ∉ l.take (k + 1) := by
  rw [List.take_succ_eq_append_getElem hk]
  simp only [List.mem_append, List.mem_singleton]
  rintro (hh | hh)
  · exact hn hh
  · exact h hh.symm
theorem not_mem_of_take {l : List Int} {n : Int} {k : Nat} (hk : l.length ≤ k) (hn : n ∉ l.take k) : n ∉ l := by
  rwa [List.take_of_length_le hk] at hn
theorem setB_succ (m : List Int) (k : Nat) (what : Int) : setB m (k + 1) what = setB m k what ++ [isB m k what] := by
  simp [setB, List.range_succ]
theorem setB_length (m : List Int) (k : Nat) (what : Int) : (setB m k what).length = k := by simp [setB]
theorem pairwise_take_succ {l : List Int} {k : Nat} (hk : k < l.length) (h : (l.take k).Pairwise (· < ·)) (hs : k = 0 ∨ ∃ h : k - 1 < l.length, l[k - 1] < l[k]) : (l.take (k + 1)).Pairwise (· < ·) := by
  rw [List.take_succ_eq_append_getElem hk]
  refine List.pairwise_append.2 ⟨h, by simp, fun a ha b hb => ?_⟩
  have hb' : b = l[k] := by simpa using hb
  subst hb'
  rcases hs with rfl | ⟨h1, h2⟩
  · simp at ha
  · obtain ⟨j, hj, rfl⟩ := List.getElem_of_mem ha
    have hjl : j < k := by simp at hj; omega
    rw [List.getElem_take]
    by_cases he : j = k - 1
    · subst he; exact h2
    · have := (List.pairwise_iff_getElem.1 h) j (k - 1) (by simp; omega) (by simp; omega) (by omega)
      simp only [List.getElem_take] at this
      omega
theorem not_pairwise_at {l : List Int} {k : Nat} (hk : k < l.length) (h0 : 0 < k) (h : l[k] ≤ l[k - 1]) : ¬ l.Pairwise (· < ·) := fun hp => by
  have := (List.pairwise_iff_getElem.1 hp) (k - 1) k (by omega) hk (by omega)
  omega

/-! ### The chain: counters of rules, and a queue of atoms -/
structure Ch where
  out : List Bool
  left : List Int
  who : List (List Int)
  heads : List Int
  queue : List Int

def Ch.follow (c : Ch) (a : Nat) : Ch := if c.out.getD a false then c else { c with out := c.out.set a true, queue := c.queue ++ [(a : Int)] }
def Ch.met (c : Ch) (r : Nat) : Ch :=
  let c' := { c with left := c.left.set r (c.left.getD r 0 - 1) }
  if c.left.getD r 0 - 1 = 0 then c'.follow (c.heads.getD r 0).toNat else c'
def Ch.wait (c : Ch) (n : Int) (p : Nat) : Ch := { c with who := c.who.set p (c.who.getD p [] ++ [n]) }
def Ch.add (c : Ch) (r : Rule) : Ch :=
  let n : Int := c.left.length
  let c1 : Ch := { c with left := c.left ++ [(r.pos.length : Int)], heads := c.heads ++ [r.head] }
  let c2 := r.pos.foldl (fun c p => c.wait n p.toNat) c1
  if r.pos.length = 0 then c2.follow r.head.toNat else c2
def Ch.start (n : Nat) : Ch := ⟨List.replicate n false, [], List.replicate n [], [], []⟩
def Ch.build (n : Nat) (rs : List Rule) : Ch := rs.foldl Ch.add (Ch.start n)
def Ch.pop (c : Ch) : Ch := { c with queue := c.queue.tail }
def Ch.round (c : Ch) : Ch := (c.who.getD (c.queue.headD 0).toNat []).foldl (fun c r => c.met r.toNat) c.pop
def Ch.run : Nat → Ch → Ch
  | 0, c => c
  | k + 1, c => if c.queue = [] then c else Ch.run k c.round
end Go.Proofs.Ytnmkffkalnkbbaa.Pl
