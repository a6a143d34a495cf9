/-
  Plain words: where slots stand behind a collection, and what a heap, roots and marks are then. No program of Go stands here.
  No condition but the premises of each theorem.
-/
import Derived.Test.YtnmkffkalnkbbaaPha
namespace Go.Proofs.Ytnmkffkalnkbbaa.Pl
structure Mk where
  cells : Int
  trail : Int
  roots : List Int
def allI (roots : List Int) (ms : List Mk) : List Int := roots ++ ms.flatMap (·.roots)
theorem allI_succ (roots : List Int) (ms : List Mk) {k : Nat} (h : k < ms.length) : allI roots (ms.take (k + 1)) = allI roots (ms.take k) ++ ms[k].roots := by
  unfold allI
  rw [List.take_succ_eq_append_getElem h, List.flatMap_append, List.append_assoc]
  simp
def movI : Int → List Bool → List Int
  | _, [] => []
  | c, b :: l => if b = true then c :: movI (c + 1) l else -1 :: movI c l
def movedI (live : List Bool) : List Int := movI 0 live
theorem cntB_cons (b : Bool) (l : List Bool) : cntB (b :: l) = cntB l + if b = true then 1 else 0 := by
  unfold cntB
  rw [List.countP_cons]
  rfl
theorem cntB_app (l l2 : List Bool) : cntB (l ++ l2) = cntB l + cntB l2 := by
  unfold cntB
  rw [List.countP_append]
theorem movI_snoc : ∀ (l : List Bool) (c : Int) (b : Bool), movI c (l ++ [b]) = movI c l ++ [if b = true then c + cntB l else -1]
  | [], c, b => by
    simp only [List.nil_append, movI]
    split <;> simp [cntB]
  | x :: l, c, b => by
    rw [List.cons_append, movI, movI]
    by_cases h : x = true
    · rw [if_pos h, if_pos h, movI_snoc, cntB_cons, if_pos h]
      simp only [List.cons_append]
      split <;> simp
      omega
    · rw [if_neg h, if_neg h, movI_snoc, cntB_cons, if_neg h]
      simp
theorem movI_len : ∀ (l : List Bool) (c : Int), (movI c l).length = l.length
  | [], _ => rfl
  | b :: l, c => by
    rw [movI]
    split <;> simp [movI_len l]
theorem movedI_len (l : List Bool) : (movedI l).length = l.length := movI_len l 0
theorem movedI_succ {l : List Bool} {k : Nat} (h : k < l.length) : movedI (l.take (k + 1)) = movedI (l.take k) ++ [if l[k] = true then (cntB (l.take k) : Int) else -1] := by
  unfold movedI
  rw [List.take_succ_eq_append_getElem h, movI_snoc, Int.zero_add]
theorem cntB_succ {l : List Bool} {k : Nat} (h : k < l.length) : cntB (l.take (k + 1)) = cntB (l.take k) + if l[k] = true then 1 else 0 := by
  rw [List.take_succ_eq_append_getElem h, cntB_app, cntB_cons]
  simp [cntB]
theorem movedI_take (l : List Bool) (k : Nat) : (movedI l).take k = movedI (l.take k) := by
  have key : ∀ (l : List Bool) (c : Int) (k : Nat), (movI c l).take k = movI c (l.take k) := by
    intro l
    induction l with
    | nil => intro c k; simp [movI]
    | cons b l ih =>
      intro c k
      cases k with
      | zero => simp [movI]
      | succ k =>
        rw [List.take_succ_cons, movI, movI]
        split <;> simp [ih]
  exact key l 0 k
theorem movedI_at {l : List Bool} {k : Nat} (h : k < l.length) (h' : k < (movedI l).length) : (movedI l)[k] = if l[k] = true then (cntB (l.take k) : Int) else -1 := by
  have h1 := movedI_succ h
  rw [← movedI_take, ← movedI_take, List.take_succ_eq_append_getElem h'] at h1
  have := List.append_cancel_left h1
  simpa using this
theorem movedI_range {l : List Bool} : ∀ x ∈ movedI l, -1 ≤ x ∧ x < l.length := fun x hx => by
  obtain ⟨k, hk, rfl⟩ := List.getElem_of_mem hx
  have hk' : k < l.length := by rw [← movedI_len]; exact hk
  rw [movedI_at hk' hk]
  have h1 := cntB_le (l.take k)
  simp only [List.length_take] at h1
  split <;> omega
/-- Places that have moved; -1 of those that are none, or have gone. -/
def toI (to : List Int) (l : List Int) : List Int := l.map fun (x : Int) => if 0 ≤ x ∧ x < to.length then valI to x else -1
theorem toI_succ (to : List Int) {l : List Int} {k : Nat} (h : k < l.length) : toI to (l.take (k + 1)) = toI to (l.take k) ++ [if 0 ≤ l[k] ∧ l[k] < to.length then valI to l[k] else -1] := by
  unfold toI
  rw [List.take_succ_eq_append_getElem h, List.map_append]
  rfl
theorem toI_len (to l : List Int) : (toI to l).length = l.length := by simp [toI]
theorem toI_take (to l : List Int) (k : Nat) : (toI to l).take k = toI to (l.take k) := by simp [toI, List.map_take]
def someI (l : List Int) : List Int := l.filter fun x => decide (0 ≤ x)
theorem someI_succ {l : List Int} {k : Nat} (h : k < l.length) : someI (l.take (k + 1)) = someI (l.take k) ++ if 0 ≤ l[k] then [l[k]] else [] := by
  unfold someI
  rw [List.take_succ_eq_append_getElem h, List.filter_append]
  by_cases h2 : 0 ≤ l[k] <;> simp [List.filter, h2]
theorem someI_len (l : List Int) : (someI l).length ≤ l.length := List.length_filter_le _ _
theorem valI_mem {to : List Int} {x : Int} (h0 : 0 ≤ x) (h1 : x < to.length) : valI to x ∈ to := by
  have : x.toNat < to.length := by omega
  simp only [valI, List.getD_eq_getElem?_getD, List.getElem?_eq_getElem this, Option.getD_some]
  exact List.getElem_mem _
theorem toI_range {to l : List Int} {b : Int} (h : ∀ x ∈ to, -1 ≤ x ∧ x < b) (hb : -1 < b) : ∀ x ∈ toI to l, -1 ≤ x ∧ x < b := fun x hx => by
  obtain ⟨y, _, rfl⟩ := List.mem_map.1 hx
  split
  · rename_i h1
    exact h _ (valI_mem h1.1 h1.2)
  · omega
/-- A slot that stays. -/
def slotM (to : List Int) (s : Cell) : Cell := if s.kind = 1 ∨ s.kind = 3 then ⟨s.kind, s.name, valI to s.n⟩ else s
def cellsC : List Int → List Int → List Cell → List Cell
  | to, t :: ts, s :: cs => if 0 ≤ t then slotM to s :: cellsC to ts cs else cellsC to ts cs
  | _, _, _ => []
def cellsM (to : List Int) (cs : List Cell) : List Cell := cellsC to to cs
theorem cellsC_snoc (to : List Int) : ∀ (ts : List Int) (cs : List Cell) (t : Int) (s : Cell), ts.length = cs.length → cellsC to (ts ++ [t]) (cs ++ [s]) = cellsC to ts cs ++ if 0 ≤ t then [slotM to s] else []
  | [], [], t, s, _ => by
    simp only [List.nil_append, cellsC]
  | [], _ :: _, _, _, h => by simp at h
  | _ :: _, [], _, _, h => by simp at h
  | x :: ts, y :: cs, t, s, h => by
    rw [List.cons_append, List.cons_append, cellsC, cellsC, cellsC_snoc to ts cs t s (by simpa using h)]
    split <;> simp
theorem cellsC_succ (to : List Int) {ts : List Int} {cs : List Cell} {k : Nat} (h : k < ts.length) (h' : k < cs.length) : cellsC to (ts.take (k + 1)) (cs.take (k + 1)) = cellsC to (ts.take k) (cs.take k) ++ if 0 ≤ ts[k] then [slotM to cs[k]] else [] := by
  rw [List.take_succ_eq_append_getElem h, List.take_succ_eq_append_getElem h', cellsC_snoc]
  simp
  omega
theorem cellsC_len (to : List Int) : ∀ (ts : List Int) (cs : List Cell), ts.length = cs.length → (cellsC to ts cs).length = (someI ts).length
  | [], [], _ => rfl
  | [], _ :: _, h => by simp at h
  | _ :: _, [], h => by simp at h
  | t :: ts, c :: cs, h => by
    have ih := cellsC_len to ts cs (by simpa using h)
    rw [cellsC]
    unfold someI at ih ⊢
    by_cases h2 : 0 ≤ t <;> simp [List.filter, h2, ih]
def markM (to tr : List Int) (m : Mk) : Mk := ⟨((someI (to.take m.cells.toNat)).length : Int), ((someI (toI to (tr.take m.trail.toNat))).length : Int), toI to m.roots⟩
def trailM (to tr : List Int) : List Int := someI (toI to tr)
def MkOk (n t : Nat) (m : Mk) : Prop := (0 ≤ m.cells ∧ m.cells ≤ n) ∧ 0 ≤ m.trail ∧ m.trail ≤ t
end Go.Proofs.Ytnmkffkalnkbbaa.Pl
