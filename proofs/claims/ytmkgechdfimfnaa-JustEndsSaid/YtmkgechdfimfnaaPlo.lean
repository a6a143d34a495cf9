/-
  Plain words: the part of a proof that an atom needs, step by step. No program of Go stands here.
  No condition but the premises of each theorem.
-/
import Derived.Test.YtmkgechdfimfnaaPln
namespace Go.Proofs.Ytmkgechdfimfnaa.Pl
theorem findP_len {α : Type} (p : α → Bool) (xs : List α) : findP p xs < xs.length := by
  rcases findP_lt p xs with h | ⟨k, hk, h, _⟩ <;> omega
theorem byI_len (l : List Step) (a : Int) : byI l a < l.length := findP_len _ _
def byL (n : Nat) (l : List Step) : List Int := (List.range n).map fun (a : Nat) => byI l a
theorem byL_len (n : Nat) (l : List Step) : (byL n l).length = n := by simp [byL]
theorem byL_val {n : Nat} {l : List Step} {a : Int} (h0 : 0 ≤ a) (ha : a < n) : valI (byL n l) a = byI l a := by
  have h1 : a.toNat < n := by omega
  have h2 : ((a.toNat : Nat) : Int) = a := by omega
  simp [valI, byL, h1, h2]
theorem byL_get {n : Nat} {l : List Step} {k : Nat} (hk : k < (byL n l).length) : (byL n l)[k] = byI l k := by simp [byL]
theorem byL_range {n : Nat} {l : List Step} : ∀ x ∈ byL n l, -1 ≤ x ∧ x < l.length := fun x hx => by
  obtain ⟨a, _, rfl⟩ := List.mem_map.1 hx
  refine ⟨?_, byI_len _ _⟩
  unfold byI findP
  split <;> omega
theorem byL_succ (n : Nat) (l : List Step) : byL (n + 1) l = byL n l ++ [byI l n] := by simp [byL, List.range_succ]
theorem knownI_succ (n : Nat) (l : List Step) : knownI (n + 1) l = knownI n l ++ [match l.find? (fun s => decide ((n : Int) ∈ s.atoms)) with | some s => tellOf s | none => 1] := by
  simp only [knownI, List.range_succ, List.map_append, List.map_cons, List.map_nil]
  rfl
theorem markI_len (l : List Step) : ∀ (ns : List Int) (nd : List Bool), (markI l nd ns).length = nd.length
  | [], _ => rfl
  | a :: ns, nd => by
    show (markI l (nd.set (byI l a).toNat true) ns).length = _
    rw [markI_len l ns]
    simp
theorem markI_app (l : List Step) (nd : List Bool) (a b : List Int) : markI l nd (a ++ b) = markI l (markI l nd a) b := by simp [markI, List.foldl_append]
theorem markI_succ (l : List Step) (nd : List Bool) (ns : List Int) {k : Nat} (h : k < ns.length) : markI l nd (ns.take (k + 1)) = (markI l nd (ns.take k)).set (byI l ns[k]).toNat true := by
  rw [List.take_succ_eq_append_getElem h, markI_app]
  rfl
theorem aheadI_mem {l : List Step} {m : List Int} {k : Nat} {ns : List Int} {v : Int} (h : 0 ≤ aheadI l m k ns v) : ∃ (i : Nat) (hi : i < ns.length), aheadI l m k ns v = i ∧ pickA ns (aheadI l m k ns v) = [ns[i]] ∧ valI m ns[i] = v ∧ 0 ≤ byI l ns[i] ∧ byI l ns[i] < k := by
  rcases findP_lt (fun a => decide (valI m a = v) && decide (0 ≤ byI l a) && decide (byI l a < k)) ns with h2 | ⟨i, hi, h2, hp, _⟩
  · unfold aheadI at h; omega
  · have h3 : aheadI l m k ns v = i := h2
    simp only [Bool.and_eq_true, decide_eq_true_eq] at hp
    refine ⟨i, hi, h3, ?_, hp.1.1, hp.1.2, hp.2⟩
    rw [h3]
    simp [pickA, hi]
theorem pickA_neg {ns : List Int} {i : Int} (h : i < 0) : pickA ns i = [] := by rw [pickA, if_neg (by omega)]
theorem reasonI_mem {l : List Step} {m : List Int} {k : Nat} {U : List Int} {r : Rule} {a : Int} (h : a ∈ reasonI l m k U r) : (a ∈ r.pos ∧ valI m a = 0 ∨ a ∈ r.neg ∧ valI m a = 2) ∧ 0 ≤ byI l a ∧ byI l a < k := by
  unfold reasonI at h
  split at h
  · cases h
  · split at h
    · rename_i h2
      obtain ⟨i, hi, _, h4, h5, h6, h7⟩ := aheadI_mem h2
      rw [h4] at h
      have : a = r.pos[i] := by simpa using h
      subst this
      exact ⟨.inl ⟨List.getElem_mem hi, h5⟩, h6, h7⟩
    · by_cases h2 : 0 ≤ aheadI l m k r.neg 2
      · obtain ⟨i, hi, _, h4, h5, h6, h7⟩ := aheadI_mem h2
        rw [h4] at h
        have : a = r.neg[i] := by simpa using h
        subst this
        exact ⟨.inr ⟨List.getElem_mem hi, h5⟩, h6, h7⟩
      · rw [pickA_neg (by omega)] at h
        cases h
/-- The rules by which atoms are told are there, and all that they lean on is told. -/
def LeanOk (rs : List Rule) (l : List Step) : Prop := ∀ s ∈ l, 0 ≤ s.rule → ∃ h : s.rule.toNat < rs.length, ∀ b, b ∈ rs[s.rule.toNat].pos ++ rs[s.rule.toNat].neg → 0 ≤ byI l b
def reasR (rs : List Rule) (l : List Step) (m : List Int) (k : Nat) (U : List Int) (i : Int) : List Int := match rs[i.toNat]? with | some r => reasonI l m k U r | none => []
def atomR (rs : List Rule) (l : List Step) (m : List Int) (k : Nat) (U : List Int) (a : Int) : List Int := (ofI rs a).flatMap (reasR rs l m k U)
theorem leansI_set {rs : List Rule} {l : List Step} {m : List Int} {k : Nat} {s : Step} (h : s.rule < 0) : leansI rs l m k s = s.atoms.flatMap (atomR rs l m k s.atoms) := by
  rw [leansI, if_neg (by omega)]
  rfl
theorem leansI_rule {rs : List Rule} {l : List Step} {m : List Int} {k : Nat} {s : Step} (h : 0 ≤ s.rule) (hl : s.rule.toNat < rs.length) : leansI rs l m k s = rs[s.rule.toNat].pos ++ rs[s.rule.toNat].neg := by
  rw [leansI, if_pos h, List.getElem?_eq_getElem hl]
theorem reasR_at {rs : List Rule} {l : List Step} {m : List Int} {k : Nat} {U : List Int} {i : Nat} (h : i < rs.length) : reasR rs l m k U (i : Int) = reasonI l m k U rs[i] := by
  unfold reasR
  rw [show ((i : Nat) : Int).toNat = i from rfl, List.getElem?_eq_getElem h]
theorem flatMap_succ {α β : Type} (f : α → List β) (xs : List α) {k : Nat} (h : k < xs.length) : (xs.take (k + 1)).flatMap f = (xs.take k).flatMap f ++ f xs[k] := by
  rw [List.take_succ_eq_append_getElem h, List.flatMap_append]
  simp
theorem forN_skip {rs : List Rule} {l : List Step} {m : List Int} {k : Nat} {nd : List Bool} (hk : k < l.length) (h : nd.getD k false = false) : forN rs l m (k + 1) nd = forN rs l m k nd := by
  rw [forN, List.getElem?_eq_getElem hk]
  simp only [h]
  rfl
theorem forN_do {rs : List Rule} {l : List Step} {m : List Int} {k : Nat} {nd : List Bool} (hk : k < l.length) (h : nd.getD k false = true) : forN rs l m (k + 1) nd = forN rs l m k (markI l nd (leansI rs l m k l[k])) := by
  rw [forN, List.getElem?_eq_getElem hk]
  simp only [h]
  rfl
theorem partI_succ {l : List Step} {nd : List Bool} {k : Nat} (hk : k < l.length) (hn : k < nd.length) : partI (l.take (k + 1)) (nd.take (k + 1)) = partI (l.take k) (nd.take k) ++ if nd[k] = true then [l[k]] else [] := by
  rw [List.take_succ_eq_append_getElem hk, List.take_succ_eq_append_getElem hn]
  unfold partI
  rw [List.zip_append (by simp; omega), List.filter_append, List.map_append]
  congr 1
  cases h : nd[k] <;> simp [List.filter]
theorem partI_le (l : List Step) (nd : List Bool) : (partI l nd).length ≤ l.length := by
  unfold partI
  have h1 := List.length_filter_le (fun (x : Step × Bool) => x.2) (l.zip nd)
  simp only [List.length_zip] at h1
  simp only [List.length_map]
  omega
theorem ofI_mem {rs : List Rule} {a i : Int} (h : i ∈ ofI rs a) : ∃ (k : Nat) (hk : k < rs.length), i = k ∧ rs[k].head = a := by
  obtain ⟨k, hk, hp, rfl⟩ := mem_pickI.1 h
  refine ⟨k, hk, rfl, ?_⟩
  simpa [hk] using hp
theorem pickA_len (ns : List Int) (i : Int) : (pickA ns i).length ≤ 1 := by
  unfold pickA
  split <;> simp
theorem reasonI_len (l : List Step) (m : List Int) (k : Nat) (U : List Int) (r : Rule) : (reasonI l m k U r).length ≤ 1 := by
  unfold reasonI
  split
  · simp
  · split <;> exact pickA_len _ _
theorem reasR_len (rs : List Rule) (l : List Step) (m : List Int) (k : Nat) (U : List Int) (i : Int) : (reasR rs l m k U i).length ≤ 1 := by
  unfold reasR
  split
  · exact reasonI_len _ _ _ _ _
  · simp
theorem flatMap_len {α β : Type} (f : α → List β) (B : Nat) (h : ∀ x, (f x).length ≤ B) : ∀ xs : List α, (xs.flatMap f).length ≤ xs.length * B
  | [] => by simp
  | x :: xs => by
    have h1 := flatMap_len f B h xs
    have h2 := h x
    simp only [List.flatMap_cons, List.length_append, List.length_cons]
    rw [Nat.add_mul]
    omega
theorem atomR_len (rs : List Rule) (l : List Step) (m : List Int) (k : Nat) (U : List Int) (a : Int) : (atomR rs l m k U a).length ≤ rs.length := by
  have h1 := flatMap_len (reasR rs l m k U) 1 (reasR_len rs l m k U) (ofI rs a)
  have h2 : (ofI rs a).length ≤ rs.length := pickI_len _ _
  unfold atomR
  omega
/-- How many reasons there are, at most. -/
theorem reasons_len {rs : List Rule} {l : List Step} {m : List Int} {k : Nat} {U : List Int} (hr : rs.length ≤ 1000) (hU : U.length ≤ 1000) (j q : Nat) (a : Int) : ((U.take j).flatMap (atomR rs l m k U) ++ ((ofI rs a).take q).flatMap (reasR rs l m k U)).length ≤ 1001000 := by
  have h1 := flatMap_len (atomR rs l m k U) 1000 (fun x => Nat.le_trans (atomR_len rs l m k U x) hr) (U.take j)
  have h2 := flatMap_len (reasR rs l m k U) 1 (reasR_len rs l m k U) ((ofI rs a).take q)
  have h3 : (ofI rs a).length ≤ rs.length := pickI_len _ _
  have h4 : (U.take j).length ≤ 1000 := by simp only [List.length_take]; omega
  have h5 : (U.take j).length * 1000 ≤ 1000 * 1000 := Nat.mul_le_mul_right _ h4
  simp only [List.length_append, List.length_take] at *
  omega
theorem leans_told {rs : List Rule} {l : List Step} {m : List Int} {k : Nat} (hL : LeanOk rs l) (hk : k < l.length) {a : Int} (h : a ∈ leansI rs l m k l[k]) : 0 ≤ byI l a := by
  by_cases h0 : 0 ≤ l[k].rule
  · obtain ⟨hl, hb⟩ := hL _ (List.getElem_mem hk) h0
    rw [leansI_rule h0 hl] at h
    exact hb a h
  · rw [leansI_set (by omega), List.mem_flatMap] at h
    obtain ⟨b, _, h⟩ := h
    rw [atomR, List.mem_flatMap] at h
    obtain ⟨i, _, h⟩ := h
    unfold reasR at h
    split at h
    · exact (reasonI_mem h).2.1
    · cases h
theorem leansI_range {n : Nat} {rs : List Rule} {l : List Step} {m : List Int} {k : Nat} (hP : PrOk n rs) {s : Step} {a : Int} (h : a ∈ leansI rs l m k s) : 0 ≤ a ∧ a < n := by
  unfold leansI at h
  split at h
  · split at h
    · rename_i r hr
      have hrk := (hP.rule r (List.mem_of_getElem? hr)).1
      rcases List.mem_append.1 h with h | h
      · exact hrk.2.1 a h
      · exact hrk.2.2 a h
    · cases h
  · rw [List.mem_flatMap] at h
    obtain ⟨b, _, h⟩ := h
    rw [List.mem_flatMap] at h
    obtain ⟨i, _, h⟩ := h
    split at h
    · rename_i r hr
      have hrk := (hP.rule r (List.mem_of_getElem? hr)).1
      rcases (reasonI_mem h).1 with h | h
      · exact hrk.2.1 a h.1
      · exact hrk.2.2 a h.1
    · cases h
/-! ### Sets of which each rule is tied -/
def tiedB (rs : List Rule) (m U : List Int) (i : Int) : Bool := match rs[i.toNat]? with | some r => hasB m r.pos 0 || hasB m r.neg 2 || r.pos.any (fun p => decide (p ∈ U)) | none => true
theorem tiedB_at {rs : List Rule} {m U : List Int} {x : Nat} (h : x < rs.length) : tiedB rs m U (x : Int) = (hasB m rs[x].pos 0 || hasB m rs[x].neg 2 || rs[x].pos.any (fun p => decide (p ∈ U))) := by
  unfold tiedB
  rw [show ((x : Nat) : Int).toNat = x from rfl, List.getElem?_eq_getElem h]
theorem loose_tied {rs : List Rule} {m U : List Int} {x : Nat} (h : x < rs.length) : looseB m U rs[x] = (decide (rs[x].head ∈ U) && !tiedB rs m U (x : Int)) := by
  rw [tiedB_at h]
  unfold looseB meetB
  cases decide (rs[x].head ∈ U) <;> cases hasB m rs[x].pos 0 <;> cases hasB m rs[x].neg 2 <;> rfl
theorem ofI_get {rs : List Rule} {x : Nat} (h : x < rs.length) : (x : Int) ∈ ofI rs rs[x].head := mem_pickI.2 ⟨x, h, by simp [h], rfl⟩
theorem fit_false {rs : List Rule} {m : List Int} {s : Step} {a i : Int} (ha : a ∈ s.atoms) (hi : i ∈ ofI rs a) (ht : tiedB rs m s.atoms i = false) (h0 : s.rule < 0) : stepOk rs m s = false := by
  by_cases h1 : s.rule = -1
  · obtain ⟨x, hx, rfl, hh⟩ := ofI_mem hi
    rw [stepOk_byset h1]
    have : unfOk rs m s.atoms = false := by
      unfold unfOk
      rw [List.all_eq_false]
      refine ⟨rs[x], List.getElem_mem hx, ?_⟩
      rw [loose_tied hx, ht, hh, decide_eq_true ha]
      decide
    rw [this, Bool.and_false]
  · exact stepOk_small (by omega)
theorem fit_true {rs : List Rule} {m : List Int} {s : Step} (hso : setOpen m s.atoms = true) (h : ∀ a ∈ s.atoms, ∀ i ∈ ofI rs a, tiedB rs m s.atoms i = true) (h0 : s.rule < 0) : stepOk rs m s = decide (s.rule = -1) := by
  by_cases h1 : s.rule = -1
  · rw [stepOk_byset h1, hso, decide_eq_true h1, Bool.true_and]
    unfold unfOk
    rw [List.all_eq_true]
    intro r hr
    obtain ⟨x, hx, rfl⟩ := List.getElem_of_mem hr
    rw [loose_tied hx]
    by_cases h2 : rs[x].head ∈ s.atoms
    · rw [h _ h2 _ (ofI_get hx)]
      simp
    · rw [decide_eq_false h2]
      rfl
  · rw [decide_eq_false h1]
    exact stepOk_small (by omega)
end Go.Proofs.Ytmkgechdfimfnaa.Pl
