/-
  Plain words: programs that are made of any rules; proofs and their parts. No program of Go stands here.
  No condition but the premises of each theorem.
-/
import Derived.Test.YtmkgechdfimfnaaPll
namespace Go.Proofs.Ytmkgechdfimfnaa.Pl

/-! ### Programs that are made -/
def lessI : List Int → List Int → Int
  | [], [] => 0
  | [], _ :: _ => -1
  | _ :: _, [] => 1
  | x :: a, y :: b => if x < y then -1 else if y < x then 1 else lessI a b
theorem lessI_at {a b : List Int} {k : Nat} (h1 : k < a.length) (h2 : k < b.length) : lessI (a.drop k) (b.drop k) = if a[k] < b[k] then -1 else if b[k] < a[k] then 1 else lessI (a.drop (k + 1)) (b.drop (k + 1)) := by
  rw [List.drop_eq_getElem_cons h1, List.drop_eq_getElem_cons h2, lessI]
theorem lessI_end {a b : List Int} {k : Nat} (h : ¬ (k < a.length ∧ k < b.length)) (ha : k ≤ a.length) (hb : k ≤ b.length) : lessI (a.drop k) (b.drop k) = if a.length < b.length then -1 else if b.length < a.length then 1 else 0 := by
  by_cases h1 : k < a.length
  · have h2 : ¬ k < b.length := fun hh => h ⟨h1, hh⟩
    rw [List.drop_eq_getElem_cons h1, List.drop_eq_nil_of_le (by omega : b.length ≤ k), if_neg (by omega), if_pos (by omega)]
    rfl
  · rw [List.drop_eq_nil_of_le (by omega : a.length ≤ k)]
    by_cases h2 : k < b.length
    · rw [List.drop_eq_getElem_cons h2, if_pos (by omega)]
      rfl
    · rw [List.drop_eq_nil_of_le (by omega : b.length ≤ k), if_neg (by omega), if_neg (by omega)]
      rfl
theorem lessI_zero : ∀ {a b : List Int}, lessI a b = 0 ↔ a = b
  | [], [] => by simp [lessI]
  | [], _ :: _ => by simp [lessI]
  | _ :: _, [] => by simp [lessI]
  | x :: a, y :: b => by
    rw [lessI]
    split
    · simp; omega
    · split
      · simp; omega
      · rw [lessI_zero]
        simp
        omega
theorem lessI_range : ∀ (a b : List Int), lessI a b = -1 ∨ lessI a b = 0 ∨ lessI a b = 1
  | [], [] => by simp [lessI]
  | [], _ :: _ => by simp [lessI]
  | _ :: _, [] => by simp [lessI]
  | x :: a, y :: b => by
    rw [lessI]
    split
    · simp
    · split
      · simp
      · exact lessI_range a b
def ordS (a b : Rule) : Int := if lessI [a.head] [b.head] ≠ 0 then lessI [a.head] [b.head] else if lessI a.pos b.pos ≠ 0 then lessI a.pos b.pos else lessI a.neg b.neg
def insS : List Rule → Rule → List Rule
  | [], r => [r]
  | x :: l, r => if ordS x r < 0 then x :: insS l r else if ordS x r = 0 then x :: l else r :: x :: l
def rulesS (l : List Rule) : List Rule := l.foldl insS []
theorem insS_step {l : List Rule} {r : Rule} {k : Nat} (hk : k < l.length) (hp : insS l r = l.take k ++ insS (l.drop k) r) (h : ordS l[k] r < 0) : insS l r = l.take (k + 1) ++ insS (l.drop (k + 1)) r := by
  rw [hp, List.drop_eq_getElem_cons hk, insS, if_pos h, List.take_succ_eq_append_getElem hk, List.append_assoc]
  rfl
theorem insS_here {l : List Rule} {r : Rule} {k : Nat} (hk : k < l.length) (hp : insS l r = l.take k ++ insS (l.drop k) r) (h : ordS l[k] r = 0) : insS l r = l := by
  rw [hp, List.drop_eq_getElem_cons hk, insS, if_neg (by omega), if_pos h, List.getElem_cons_drop, List.take_append_drop]
theorem insS_new {l : List Rule} {r : Rule} {k : Nat} (hk : k < l.length) (hp : insS l r = l.take k ++ insS (l.drop k) r) (h : ¬ ordS l[k] r < 0) (h' : ¬ ordS l[k] r = 0) : insS l r = l.take k ++ [r] ++ l.drop k := by
  rw [hp, List.drop_eq_getElem_cons hk, insS, if_neg h, if_neg h', List.append_assoc]
  rfl
theorem insS_end {l : List Rule} {r : Rule} {k : Nat} (hk : l.length ≤ k) (hp : insS l r = l.take k ++ insS (l.drop k) r) : insS l r = l.take k ++ [r] ++ l.drop k := by
  rw [hp, List.drop_eq_nil_of_le hk]
  simp [insS]
theorem insS_mem {r x : Rule} : ∀ {l : List Rule}, x ∈ insS l r → x = r ∨ x ∈ l
  | [], h => by simpa [insS] using h
  | y :: l, h => by
    rw [insS] at h
    split at h
    · rcases List.mem_cons.1 h with h | h
      · simp [h]
      · rcases insS_mem h with h | h <;> simp [h]
    · split at h
      · simp only [List.mem_cons] at h ⊢
        rcases h with h | h <;> simp [h]
      · simp only [List.mem_cons] at h ⊢
        exact h
theorem insS_len {r : Rule} : ∀ {l : List Rule}, (insS l r).length ≤ l.length + 1
  | [] => by simp [insS]
  | y :: l => by
    rw [insS]
    split
    · have := insS_len (r := r) (l := l)
      simp only [List.length_cons]
      omega
    · split <;> simp
theorem foldS_mem : ∀ {l out : List Rule} {x : Rule}, x ∈ l.foldl insS out → x ∈ l ∨ x ∈ out
  | [], _, _, h => .inr h
  | r :: l, out, x, h => by
    rcases foldS_mem (l := l) (out := insS out r) h with h | h
    · exact .inl (by simp [h])
    · rcases insS_mem h with h | h
      · exact .inl (by simp [h])
      · exact .inr h
theorem foldS_len : ∀ {l out : List Rule}, (l.foldl insS out).length ≤ out.length + l.length
  | [], _ => Nat.le_refl _
  | r :: l, out => by
    have h1 := foldS_len (l := l) (out := insS out r)
    have h2 := insS_len (r := r) (l := out)
    simp only [List.foldl_cons, List.length_cons]
    omega
theorem rulesS_mem {l : List Rule} {x : Rule} (h : x ∈ rulesS l) : x ∈ l := by
  rcases foldS_mem h with h | h
  · exact h
  · cases h
theorem rulesS_len (l : List Rule) : (rulesS l).length ≤ l.length := by
  have := foldS_len (l := l) (out := [])
  simpa [rulesS] using this
theorem rulesS_succ {l : List Rule} {k : Nat} (h : k < l.length) : rulesS (l.take (k + 1)) = insS (rulesS (l.take k)) l[k] := by
  rw [List.take_succ_eq_append_getElem h, rulesS, List.foldl_append]
  rfl
def setS (l : List Int) (n : Nat) : List Int := pickI (fun i => (l.take 4).any fun x => decide (x % 65536 % (n : Int) = i)) n
theorem setS_range {l : List Int} {n : Nat} {x : Int} (h : x ∈ setS l n) : 0 ≤ x ∧ x < n := pickI_range h
theorem setS_len (l : List Int) (n : Nat) : (setS l n).length ≤ n := pickI_len _ _
def hasS (l : List Int) (n k : Nat) : List Bool := (List.range n).map fun (i : Nat) => (l.take k).any fun x => decide (x % 65536 % (n : Int) = i)
theorem hasS_len (l : List Int) (n k : Nat) : (hasS l n k).length = n := by simp [hasS]
theorem hasS_zero (l : List Int) (n : Nat) : hasS l n 0 = List.replicate n false := by
  refine List.ext_getElem (by simp [hasS]) fun i h1 h2 => by simp [hasS]
theorem hasS_succ {l : List Int} {n k : Nat} (hk : k < l.length) (hn : 0 < n) : hasS l n (k + 1) = (hasS l n k).set (l[k] % 65536 % (n : Int)).toNat true := by
  have h0 : 0 ≤ l[k] % 65536 % (n : Int) := Int.emod_nonneg _ (by omega)
  refine List.ext_getElem (by simp [hasS]) fun i h1 h2 => ?_
  have hi : i < n := by simpa [hasS] using h1
  rw [List.getElem_set]
  simp only [hasS, List.getElem_map, List.getElem_range]
  rw [Pl.any_take_succ _ _ _ hk]
  by_cases he : (l[k] % 65536 % (n : Int)).toNat = i
  · have : l[k] % 65536 % (n : Int) = i := by omega
    simp [this]
  · have : ¬ l[k] % 65536 % (n : Int) = i := by omega
    simp [he, this]
theorem hasS_at {l : List Int} {n k i : Nat} (hi : i < n) : (hasS l n k)[i]? = some ((l.take k).any fun x => decide (x % 65536 % (n : Int) = i)) := by simp [hasS, hi]
def madeN (z : Int) : Nat := 1 + (z % 12).toNat
def madeR (l : List Rule) (n : Nat) : List Rule := rulesS ((l.take 24).map fun r => ⟨r.head % 65536 % (n : Int), setS r.pos n, setS r.neg n⟩)
theorem madeN_range (z : Int) : 1 ≤ madeN z ∧ madeN z ≤ 12 := by
  have := Int.emod_nonneg z (show (12 : Int) ≠ 0 by decide)
  have := Int.emod_lt_of_pos z (show (0 : Int) < 12 by decide)
  unfold madeN
  omega
theorem madeR_len (l : List Rule) (n : Nat) : (madeR l n).length ≤ 24 := by
  have := rulesS_len ((l.take 24).map fun r => (⟨r.head % 65536 % (n : Int), setS r.pos n, setS r.neg n⟩ : Rule))
  simp only [List.length_map, List.length_take] at this
  unfold madeR
  omega
theorem madeR_ok (l : List Rule) {n : Nat} (h0 : 1 ≤ n) (h1 : n ≤ 12) : PrOk n (madeR l n) ∧ ∀ r ∈ madeR l n, r.pos.length ≤ 12 ∧ r.neg.length ≤ 12 := by
  have key : ∀ r ∈ madeR l n, RuleOk n r ∧ r.pos.length ≤ n ∧ r.neg.length ≤ n := fun r hr => by
    obtain ⟨q, _, rfl⟩ := List.mem_map.1 (rulesS_mem hr)
    exact ⟨⟨⟨Int.emod_nonneg _ (by omega), Int.emod_lt_of_pos _ (by omega)⟩, fun x hx => setS_range hx, fun x hx => setS_range hx⟩, setS_len _ _, setS_len _ _⟩
  refine ⟨⟨by omega, by have := madeR_len l n; omega, fun r hr => ⟨(key r hr).1, by have := (key r hr).2.1; omega⟩⟩, fun r hr => ?_⟩
  have := key r hr
  omega

/-! ### What steps tell; what holds up -/
deriving instance DecidableEq for Step, Rule
def byI (l : List Step) (a : Int) : Int := findP (fun s => decide (a ∈ s.atoms)) l
def tellOf (s : Step) : Int := if 0 ≤ s.rule then 2 else 0
def knownI (n : Nat) (l : List Step) : List Int := (List.range n).map fun (a : Nat) => match l.find? (fun s => decide ((a : Int) ∈ s.atoms)) with | some s => tellOf s | none => 1
def supH (m : List Int) (heads : List Int) (r : Rule) : Bool := decide (valI m r.head = 1) && !decide (r.head ∈ heads) && !hasB m r.pos 0 && !hasB m r.neg 2 && !r.pos.any (fun p => decide (valI m p = 1) && !decide (p ∈ heads))
/-- Does a rule hold its head up, with marks of what is held? -/
def supD (m : List Int) (hd : List Bool) (r : Rule) : Bool := decide (valI m r.head = 1) && !hd.getD r.head.toNat false && !hasB m r.pos 0 && !hasB m r.neg 2 && !r.pos.any (fun p => decide (valI m p = 1) && !hd.getD p.toNat false)
def marks (n : Nat) (heads : List Int) : List Bool := (List.range n).map fun (a : Nat) => decide ((a : Int) ∈ heads)
theorem marks_len (n : Nat) (heads : List Int) : (marks n heads).length = n := by simp [marks]
theorem marks_nil (n : Nat) : marks n [] = List.replicate n false := List.ext_getElem (by simp [marks]) fun i h1 h2 => by simp [marks]
theorem marks_at {n : Nat} {heads : List Int} {a : Int} (h0 : 0 ≤ a) (ha : a < n) : (marks n heads).getD a.toNat false = decide (a ∈ heads) := by
  have h1 : a.toNat < n := by omega
  have h2 : ((a.toNat : Nat) : Int) = a := by omega
  simp [marks, h1, h2]
theorem marks_add {n : Nat} {heads : List Int} {a : Int} (h0 : 0 ≤ a) : (marks n heads).set a.toNat true = marks n (heads ++ [a]) := by
  refine List.ext_getElem (by simp [marks]) fun i h1 h2 => ?_
  rw [List.getElem_set]
  simp only [marks, List.getElem_map, List.getElem_range]
  by_cases he : a.toNat = i
  · have : (i : Int) = a := by omega
    simp [this, he]
  · have : ¬ (i : Int) = a := by omega
    simp [he, this]
theorem supD_marks {m : List Int} {n : Nat} {heads : List Int} {r : Rule} (h : RuleOk n r) : supD m (marks n heads) r = supH m heads r := by
  unfold supD supH
  have h2 : r.pos.any (fun p => decide (valI m p = 1) && !(marks n heads).getD p.toNat false) = r.pos.any (fun p => decide (valI m p = 1) && !decide (p ∈ heads)) := by
    rw [Bool.eq_iff_iff, List.any_eq_true, List.any_eq_true]
    constructor
    · rintro ⟨p, hp, hh⟩
      exact ⟨p, hp, by rwa [marks_at (h.2.1 p hp).1 (h.2.1 p hp).2] at hh⟩
    · rintro ⟨p, hp, hh⟩
      exact ⟨p, hp, by rwa [marks_at (h.2.1 p hp).1 (h.2.1 p hp).2]⟩
  rw [marks_at h.1.1 h.1.2, h2]
def goT (rs : List Rule) (m : List Int) : Nat → List Int → List Int → List Int
  | 0, out, _ => out
  | f + 1, out, heads => match rs[(findP (supH m heads) rs).toNat]?, decide (0 ≤ findP (supH m heads) rs) with
    | some r, true => goT rs m f (out ++ [findP (supH m heads) rs]) (heads ++ [r.head])
    | _, _ => out
theorem goT_go {rs : List Rule} {m : List Int} {f : Nat} {out heads : List Int} {k : Nat} (hk : k < rs.length) (h : findP (supH m heads) rs = k) : goT rs m (f + 1) out heads = goT rs m f (out ++ [(k : Int)]) (heads ++ [rs[k].head]) := by
  have h1 : decide (0 ≤ findP (supH m heads) rs) = true := by rw [h]; simp
  rw [goT, h1, h]
  simp [hk]
theorem goT_end {rs : List Rule} {m : List Int} {f : Nat} {out heads : List Int} (h : findP (supH m heads) rs < 0) : goT rs m (f + 1) out heads = out := by
  have h1 : decide (0 ≤ findP (supH m heads) rs) = false := by simp; omega
  rw [goT, h1]
  simp
theorem findP_lt {α : Type} (p : α → Bool) (xs : List α) : findP p xs < 0 ∨ ∃ (k : Nat) (hk : k < xs.length), findP p xs = k ∧ p xs[k] = true ∧ ∀ (i : Nat) (hi : i < xs.length), i < k → p xs[i] = false := by
  cases h : xs.findIdx? p with
  | none =>
    left
    unfold findP
    rw [h]
    decide
  | some i =>
    right
    have h2 : findP p xs = i := by unfold findP; rw [h]
    obtain ⟨hk, h3, h4⟩ := findP_spec h2
    exact ⟨i, hk, h2, h3, h4⟩
theorem supH_new {m heads : List Int} {r : Rule} (h : supH m heads r = true) : r.head ∉ heads := by
  unfold supH at h
  simp only [Bool.and_eq_true, Bool.not_eq_true', decide_eq_true_eq, decide_eq_false_iff_not] at h
  exact h.1.1.1.2
theorem unf_range {n : Nat} {rs : List Rule} {m : List Int} {x : Int} (h : x ∈ unfI n rs m) : 0 ≤ x ∧ x < n := pickI_range h
theorem openF_filter {n : Nat} {rs : List Rule} {m : List Int} (hm : m.length = n) : (unfI n rs m).filter (fun x => !(!decide (valI m x = 1))) = openF m (unfI n rs m) := by
  unfold openF
  refine List.filter_congr fun x hx => ?_
  obtain ⟨h0, h1⟩ := unf_range hx
  simp [h0, hm, h1]
def holdT (n : Nat) (rs : List Rule) (m : List Int) : List Int := goT rs m (n + 1) [] []
def whyP (n : Nat) (rs : List Rule) : List Step × List Int := ((stepsI n rs).1, holdT n rs (stepsI n rs).2)
/-! ### The part that an atom needs -/
def ofI (rs : List Rule) (a : Int) : List Int := pickI (fun i => match rs[i]? with | some r => decide (r.head = a) | none => false) rs.length
def aheadI (l : List Step) (m : List Int) (k : Nat) (ns : List Int) (v : Int) : Int := findP (fun a => decide (valI m a = v) && decide (0 ≤ byI l a) && decide (byI l a < k)) ns
def pickA (ns : List Int) (i : Int) : List Int := if 0 ≤ i then [ns.getD i.toNat 0] else []
def reasonI (l : List Step) (m : List Int) (k : Nat) (U : List Int) (r : Rule) : List Int :=
  if r.pos.any (fun p => decide (p ∈ U)) = true then [] else if 0 ≤ aheadI l m k r.pos 0 then pickA r.pos (aheadI l m k r.pos 0) else pickA r.neg (aheadI l m k r.neg 2)
def leansI (rs : List Rule) (l : List Step) (m : List Int) (k : Nat) (s : Step) : List Int :=
  if 0 ≤ s.rule then (match rs[s.rule.toNat]? with | some r => r.pos ++ r.neg | none => [])
  else s.atoms.flatMap fun a => (ofI rs a).flatMap fun i => match rs[i.toNat]? with | some r => reasonI l m k s.atoms r | none => []
def markI (l : List Step) (nd : List Bool) (ns : List Int) : List Bool := ns.foldl (fun nd a => nd.set (byI l a).toNat true) nd
def forN (rs : List Rule) (l : List Step) (m : List Int) : Nat → List Bool → List Bool
  | 0, nd => nd
  | k + 1, nd => forN rs l m k (match l[k]? with | some s => if nd.getD k false = true then markI l nd (leansI rs l m k s) else nd | none => nd)
def partI (l : List Step) (nd : List Bool) : List Step := ((l.zip nd).filter (·.2)).map (·.1)
def needI (n : Nat) (rs : List Rule) (l : List Step) (a : Int) : List Bool := forN rs l (knownI n l) l.length (markI l (List.replicate l.length false) [a])
def forI (n : Nat) (rs : List Rule) (p : List Step × List Int) (a : Int) : List Step × List Int :=
  if a < 0 ∨ (n : Int) ≤ a then ([], []) else if byI p.1 a < 0 then p else (partI p.1 (needI n rs p.1 a), [])
end Go.Proofs.Ytmkgechdfimfnaa.Pl
