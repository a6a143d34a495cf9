/-
  Plain laws: a proof that is built; what is refused; proofs without steps; lies. No program of Go stands here.
  No condition but the premises of each theorem.
-/
import Derived.Test.YtmkgechdfimfnaaPlj
import Derived.Test.YtmkgechdfimfnaaPlt
namespace Go.Proofs.Ytmkgechdfimfnaa.Pl

def greatG (atoms : List (List Cell)) (rs : List Rule) : Bool := !(decide (atoms.length ≤ 80) && decide (rs.length ≤ 200) && atoms.all (fun t => decide (t.length ≤ 200)) && rs.all (fun r => decide (r.pos.length ≤ 80) && decide (r.neg.length ≤ 80)))
theorem greatG_iff {atoms : List (List Cell)} {rs : List Rule} : greatG atoms rs = false ↔ atoms.length ≤ 80 ∧ rs.length ≤ 200 ∧ (∀ t ∈ atoms, t.length ≤ 200) ∧ ∀ r ∈ rs, r.pos.length ≤ 80 ∧ r.neg.length ≤ 80 := by
  simp [greatG, and_assoc]
theorem PrOk.of_great {atoms : List (List Cell)} {rs : List Rule} (hf : greatG atoms rs = false) (hr : RightP atoms rs) : PrOk atoms.length rs := by
  obtain ⟨h1, h2, _, h4⟩ := greatG_iff.1 hf
  refine ⟨by omega, by omega, fun r hr' => ?_⟩
  obtain ⟨k, hk⟩ := List.getElem?_of_mem hr'
  have h5 := (hr.rule k r hk).1
  simp only [ruleR, Bool.and_eq_true, decide_eq_true_eq] at h5
  have h6 := (setI_iff.1 h5.1.2).1
  have h7 := (setI_iff.1 h5.2).1
  have h8 := (h4 r hr').1
  exact ⟨⟨⟨h5.1.1.1, h5.1.1.2⟩, h6, h7⟩, by omega⟩
noncomputable def greatB (atoms : List (List Cell)) (rs : List Rule) (l : List Step) (h : List Int) : Bool := greatG atoms rs || !rightPB atoms rs || !decide (l.length ≤ 100) || !decide (h.length ≤ 100) || !(l.all fun s => decide (s.atoms.length ≤ 100))
theorem greatB_f {atoms : List (List Cell)} {rs : List Rule} {l : List Step} {h : List Int} (hb : greatB atoms rs l h = false) : greatG atoms rs = false ∧ RightP atoms rs ∧ l.length ≤ 100 ∧ h.length ≤ 100 ∧ ∀ s ∈ l, s.atoms.length ≤ 100 := by
  simp only [greatB, Bool.or_eq_false_iff, Bool.not_eq_false', decide_eq_true_eq, List.all_eq_true] at hb
  exact ⟨hb.1.1.1.1, rightPB_iff.1 hb.1.1.1.2, hb.1.1.2, hb.1.2, hb.2⟩

/-! ### Rules that hold up, found round by round -/
def supW (m : List Int) (r : Rule) (heads : List Int) : Bool := decide (valI m r.head = 1) && !decide (r.head ∈ heads) && r.pos.all (fun p => decide (valI m p = 2) || decide (p ∈ heads)) && r.neg.all (fun p => !decide (valI m p = 2))
def goH (m : List Int) : Nat → List Rule → List Int × List Int → List Int × List Int
  | _, [], st => st
  | i, r :: rs, st => goH m (i + 1) rs (if supW m r st.2 = true then (st.1 ++ [(i : Int)], st.2 ++ [r.head]) else st)
def iterH (m : List Int) (rs : List Rule) : Nat → List Int × List Int → List Int × List Int
  | 0, st => st
  | k + 1, st => iterH m rs k (goH m 0 rs st)
def holdsI (n : Nat) (rs : List Rule) (m : List Int) : List Int := (iterH m rs n ([], [])).1
theorem goH_go (m : List Int) (rs : List Rule) (st : List Int × List Int) {k : Nat} (hk : k < rs.length) : goH m k (rs.drop k) st = goH m (k + 1) (rs.drop (k + 1)) (if supW m rs[k] st.2 = true then (st.1 ++ [(k : Int)], st.2 ++ [rs[k].head]) else st) := by
  rw [List.drop_eq_getElem_cons hk, goH]
theorem supW_iff {m heads : List Int} {r : Rule} : supW m r heads = true ↔ valI m r.head = 1 ∧ r.head ∉ heads ∧ (∀ p ∈ r.pos, valI m p = 2 ∨ p ∈ heads) ∧ ∀ p ∈ r.neg, valI m p ≠ 2 := by
  simp [supW, and_assoc]
theorem goH_len (m : List Int) : ∀ (rs : List Rule) (i : Nat) (st : List Int × List Int), st.2.length ≤ (goH m i rs st).2.length
  | [], _, _ => Nat.le_refl _
  | r :: rs, i, st => by
    rw [goH]
    refine Nat.le_trans ?_ (goH_len m rs (i + 1) _)
    split <;> simp
theorem goH_up (m : List Int) : ∀ (rs : List Rule) (i : Nat) (st : List Int × List Int), st.2.length < (goH m i rs st).2.length ∨ (goH m i rs st = st ∧ ∀ r ∈ rs, supW m r st.2 = false)
  | [], _, st => .inr ⟨rfl, fun r hr => by cases hr⟩
  | r :: rs, i, st => by
    rw [goH]
    by_cases h : supW m r st.2 = true
    · rw [if_pos h]
      refine .inl (Nat.lt_of_lt_of_le ?_ (goH_len m rs (i + 1) _))
      simp
    · rw [if_neg h]
      rcases goH_up m rs (i + 1) st with h1 | ⟨h1, h2⟩
      · exact .inl h1
      · refine .inr ⟨h1, fun r' hr' => ?_⟩
        rcases List.mem_cons.1 hr' with rfl | hr'
        · simpa using h
        · exact h2 r' hr'
theorem iterH_fix {m : List Int} {rs : List Rule} {st : List Int × List Int} (h : goH m 0 rs st = st) : ∀ k, iterH m rs k st = st
  | 0 => rfl
  | k + 1 => by rw [iterH, h]; exact iterH_fix h k
theorem iterH_up (m : List Int) (rs : List Rule) : ∀ (k : Nat) (st : List Int × List Int), st.2.length + k ≤ (iterH m rs k st).2.length ∨ ∀ r ∈ rs, supW m r (iterH m rs k st).2 = false
  | 0, _ => .inl (Nat.le_refl _)
  | k + 1, st => by
    rcases goH_up m rs 0 st with h1 | ⟨h1, h2⟩
    · rw [iterH]
      rcases iterH_up m rs k (goH m 0 rs st) with h3 | h3
      · exact .inl (by omega)
      · exact .inr h3
    · rw [iterH_fix h1]
      exact .inr h2
theorem heldL_app {rs : List Rule} {m : List Int} : ∀ (l heads : List Int) (l' : List Int) {out : List Int}, heldL rs m heads l = some out → heldL rs m heads (l ++ l') = heldL rs m out l'
  | [], heads, l', out, h => by
    simp only [heldL, Option.some.injEq] at h
    rw [h]; rfl
  | i :: l, heads, l', out, h => by
    rw [heldL] at h
    rw [List.cons_append, heldL]
    split at h
    · cases h
    · rename_i h0
      rw [if_neg h0]
      split at h
      · rename_i r hr
        split at h
        · rename_i hs
          simp only [hs, if_true]
          exact heldL_app l _ l' h
        · cases h
      · cases h
theorem heldL_one {rs : List Rule} {m heads : List Int} {k : Nat} (hk : k < rs.length) (hs : supB m heads rs[k] = true) : heldL rs m heads [(k : Int)] = some (heads ++ [rs[k].head]) := by
  rw [heldL, if_neg (by omega)]
  simp [hk, hs, heldL]
/-- What is kept while rules are found. -/
structure HInv (rs : List Rule) (m : List Int) (st : List Int × List Int) : Prop where
  held : heldL rs m [] st.1 = some st.2
  open_ : ∀ x ∈ st.2, valI m x = 1
  nodup : st.2.Nodup
  range : ∀ x ∈ st.2, 0 ≤ x ∧ x < m.length
theorem HInv.start (rs : List Rule) (m : List Int) : HInv rs m ([], []) := ⟨rfl, by simp, by simp, by simp⟩
theorem nodup_snoc {l : List Int} {x : Int} (h : l.Nodup) (hx : x ∉ l) : (l ++ [x]).Nodup := by
  rw [List.nodup_append]
  refine ⟨h, by simp, fun a ha b hb => ?_⟩
  have : b = x := by simpa using hb
  subst this
  exact fun he => hx (by rw [← he]; exact ha)
theorem supW_supB {m heads : List Int} {r : Rule} (ho : ∀ x ∈ heads, valI m x = 1) (h : supW m r heads = true) : supB m heads r = true := by
  obtain ⟨h1, h2, h3, h4⟩ := supW_iff.1 h
  exact supB_iff.2 ⟨h1, h2, fun p hp => by rcases h3 p hp with h5 | h5; omega; have := ho p h5; omega, h4, h3⟩
theorem supB_supW {m heads : List Int} {r : Rule} (h : supB m heads r = true) : supW m r heads = true := by
  obtain ⟨h1, h2, h3, h4, h5⟩ := supB_iff.1 h
  exact supW_iff.2 ⟨h1, h2, h5, h4⟩
theorem HInv.add {rs : List Rule} {m : List Int} {st : List Int × List Int} (h : HInv rs m st) {k : Nat} (hk : k < rs.length) (hr : RuleOk m.length rs[k]) (hs : supW m rs[k] st.2 = true) : HInv rs m (st.1 ++ [(k : Int)], st.2 ++ [rs[k].head]) := by
  obtain ⟨h1, h2, _, _⟩ := supW_iff.1 hs
  refine ⟨by rw [heldL_app _ _ _ h.held]; exact heldL_one hk (supW_supB h.open_ hs), fun x hx => ?_, nodup_snoc h.nodup h2, fun x hx => ?_⟩
  · rcases List.mem_append.1 hx with hx | hx
    · exact h.open_ x hx
    · have : x = rs[k].head := by simpa using hx
      rw [this]; exact h1
  · rcases List.mem_append.1 hx with hx | hx
    · exact h.range x hx
    · have : x = rs[k].head := by simpa using hx
      rw [this]; exact hr.1
theorem heldL_len {rs : List Rule} {m : List Int} : ∀ (l heads : List Int) {out : List Int}, heldL rs m heads l = some out → out.length = heads.length + l.length ∧ ∀ i ∈ l, 0 ≤ i ∧ i < rs.length
  | [], heads, out, h => by
    simp only [heldL, Option.some.injEq] at h
    rw [← h]; simp
  | i :: l, heads, out, h => by
    rw [heldL] at h
    split at h
    · cases h
    · rename_i h0
      split at h
      · rename_i r hr
        split at h
        · obtain ⟨h1, h2⟩ := heldL_len l _ h
          refine ⟨by simp at h1 ⊢; omega, fun j hj => ?_⟩
          rcases List.mem_cons.1 hj with rfl | hj
          · have := (List.getElem?_eq_some_iff.1 hr).1
            omega
          · exact h2 j hj
        · cases h
      · cases h
theorem HInv.outlen {rs : List Rule} {m : List Int} {st : List Int × List Int} (h : HInv rs m st) : st.1.length = st.2.length := by
  have := (heldL_len st.1 [] h.held).1
  simp at this
  omega
theorem HInv.outmem {rs : List Rule} {m : List Int} {st : List Int × List Int} (h : HInv rs m st) : ∀ i ∈ st.1, 0 ≤ i ∧ i < rs.length := (heldL_len st.1 [] h.held).2
theorem HInv.go {rs : List Rule} {m : List Int} (hr : ∀ r ∈ rs, RuleOk m.length r) : ∀ (d : Nat) (k : Nat) {st : List Int × List Int}, rs.length - k = d → HInv rs m st → HInv rs m (goH m k (rs.drop k) st)
  | 0, k, st, hd, h => by
    rw [List.drop_eq_nil_of_le (by omega)]
    exact h
  | d + 1, k, st, hd, h => by
    have hk : k < rs.length := by omega
    rw [goH_go m rs st hk]
    refine HInv.go hr d (k + 1) (by omega) ?_
    split
    · rename_i hs
      exact h.add hk (hr _ (List.getElem_mem hk)) hs
    · exact h
theorem HInv.iter {rs : List Rule} {m : List Int} (hr : ∀ r ∈ rs, RuleOk m.length r) : ∀ (k : Nat) {st : List Int × List Int}, HInv rs m st → HInv rs m (iterH m rs k st)
  | 0, _, h => h
  | k + 1, _, h => HInv.iter hr k (HInv.go hr _ 0 rfl h)
section
variable {n : Nat} {rs : List Rule}
theorem fails_has {m : List Int} (hm : m.length = n) {r : Rule} (hr : RuleOk n r) : failsB r m = (hasB m r.pos 0 || hasB m r.neg 2) := by
  have e : ∀ (l : List Int) (v : Int), (∀ p ∈ l, 0 ≤ p ∧ p < n) → l.any (isB m · v) = hasB m l v := fun l v h => by
    rw [Bool.eq_iff_iff, hasB_iff, List.any_eq_true]
    constructor
    · rintro ⟨p, hp, hv⟩
      refine ⟨p, hp, ?_⟩
      have : m[p.toNat]? = some v := by simpa [isB] using hv
      simp [valI, this]
    · rintro ⟨p, hp, hv⟩
      refine ⟨p, hp, ?_⟩
      have hlt : p.toNat < m.length := by have := h p hp; omega
      simp [valI, hlt] at hv
      simp [isB, hlt, hv]
  rw [failsB, e _ _ hr.2.1, e _ _ hr.2.2]
theorem holds_close {m : List Int} (hm : m.length = n) (hr : ∀ r ∈ rs, RuleOk n r) : ∀ r ∈ rs, supW m r (iterH m rs n ([], [])).2 = false := by
  rcases iterH_up m rs n ([], []) with h | h
  · have hI := HInv.iter (m := m) (rs := rs) (fun r hr' => by rw [hm]; exact hr r hr') n (HInv.start rs m)
    intro r hr'
    rw [Bool.eq_false_iff]
    intro hs
    obtain ⟨_, h2, _, _⟩ := supW_iff.1 hs
    have := nodup_le (n := n) (List.nodup_cons.2 ⟨h2, hI.nodup⟩) (fun a ha => by
      rcases List.mem_cons.1 ha with rfl | ha
      · exact (hr r hr').1
      · have := hI.range a ha; omega)
    simp only [List.length_cons, List.length_nil] at this h
    omega
  · exact h
/-- If each open atom is founded, the rules that are found hold up all that is open. -/
theorem holds_held {m : List Int} (hm : m.length = n) (hv : ∀ a : Int, 0 ≤ a → a < n → valI m a = 0 ∨ valI m a = 1 ∨ valI m a = 2) (hr : ∀ r ∈ rs, RuleOk n r) (hF : ∀ a : Nat, a < n → m.getD a 0 = 1 → Der (rs.filter fun r => !failsB r m) a) : heldB rs m (holdsI n rs m) = true := by
  have hI := HInv.iter (m := m) (rs := rs) (fun r hr' => by rw [hm]; exact hr r hr') n (HInv.start rs m)
  have hc := holds_close hm hr
  unfold heldB holdsI
  rw [hI.held]
  simp only []
  rw [List.all_eq_true]
  intro a ha
  have han : a < n := by rw [← hm]; exact List.mem_range.1 ha
  by_cases h1 : m.getD a 0 = 1
  · have := hF a han h1 (fun x => valI m x ≠ 1 ∨ x ∈ (iterH m rs n ([], [])).2) (fun r hr' hp => by
      obtain ⟨h2, h3⟩ := List.mem_filter.1 hr'
      have hrk := hr r h2
      rw [fails_has hm hrk, Bool.not_eq_true', Bool.or_eq_false_iff, hasB_false, hasB_false] at h3
      by_cases h4 : valI m r.head = 1
      · by_cases h5 : r.head ∈ (iterH m rs n ([], [])).2
        · exact .inr h5
        · exfalso
          have h6 := hc r h2
          rw [supW_iff.2 ⟨h4, h5, fun p hp' => by
            have hb := hrk.2.1 p hp'
            have h7 := h3.1 p hp'
            rcases hp p hp' with h8 | h8
            · rcases hv p hb.1 hb.2 with h9 | h9 | h9
              · exact absurd h9 h7
              · exact absurd h9 h8
              · exact .inl h9
            · exact .inr h8, h3.2⟩] at h6
          cases h6
      · exact .inl h4)
    rcases this with h2 | h2
    · exact absurd (by rw [valI_nat]; exact h1) h2
    · simp [h2]
  · have : decide (m.getD a 0 = 1) = false := decide_eq_false h1
    rw [this]
    rfl

/-! ### Steps, found one by one -/
def openF (m l : List Int) : List Int := l.filter fun a => decide (0 ≤ a) && decide (a < m.length) && decide (valI m a = 1)
def fireI (rs : List Rule) (m : List Int) : Int := findP (fun r => decide (valI m r.head = 1) && firesB m r) rs
def goS (n : Nat) (rs : List Rule) : Nat → List Step → List Int → List Step × List Int
  | 0, out, m => (out, m)
  | f + 1, out, m => match rs[(fireI rs m).toNat]?, decide (0 ≤ fireI rs m) with
    | some r, true => goS n rs f (out ++ [⟨fireI rs m, [r.head]⟩]) (m.set r.head.toNat 2)
    | _, _ => if 0 < (openF m (unfI n rs m)).length then goS n rs f (out ++ [⟨-1, openF m (unfI n rs m)⟩]) (setAll m (openF m (unfI n rs m)) 0) else (out, m)
def stepsI (n : Nat) (rs : List Rule) : List Step × List Int := goS n rs (n + 1) [] (startI n)
theorem goS_fire {f : Nat} {out : List Step} {m : List Int} {k : Nat} (hk : k < rs.length) (h : fireI rs m = k) : goS n rs (f + 1) out m = goS n rs f (out ++ [⟨(k : Int), [rs[k].head]⟩]) (m.set rs[k].head.toNat 2) := by
  rw [goS, h, Int.toNat_natCast, List.getElem?_eq_getElem hk, decide_eq_true (by omega)]
theorem goS_unf {f : Nat} {out : List Step} {m : List Int} (h : fireI rs m < 0) (h2 : 0 < (openF m (unfI n rs m)).length) : goS n rs (f + 1) out m = goS n rs f (out ++ [⟨-1, openF m (unfI n rs m)⟩]) (setAll m (openF m (unfI n rs m)) 0) := by
  rw [goS, decide_eq_false (by omega)]
  cases rs[(fireI rs m).toNat]? <;> simp only [h2, if_true]
theorem goS_end {f : Nat} {out : List Step} {m : List Int} (h : fireI rs m < 0) (h2 : ¬ 0 < (openF m (unfI n rs m)).length) : goS n rs (f + 1) out m = (out, m) := by
  rw [goS, decide_eq_false (by omega)]
  cases rs[(fireI rs m).toNat]? <;> simp only [h2, if_false]
theorem fire_range {m : List Int} : fireI rs m < 0 ∨ ∃ k : Nat, fireI rs m = k ∧ k < rs.length := by
  unfold fireI findP
  split
  · rename_i i hi
    rw [List.findIdx?_eq_some_iff_getElem] at hi
    exact .inr ⟨i, rfl, hi.1⟩
  · exact .inl (by omega)
theorem fire_none {m : List Int} (h : fireI rs m < 0) : leftB rs m = false := by
  unfold leftB
  rw [← findP_any]
  exact decide_eq_false (by unfold fireI at h; omega)
/-- Which are told. -/
def toldB (n : Nat) (m : List Int) : List Bool := soB n m fun v => !decide (v = 1)
theorem told_lt {m : List Int} (hm : m.length = n) {s : Step} (h : setOpen m s.atoms = true) : cntB (toldB n m) < cntB (toldB n (tellI m s)) := by
  obtain ⟨h1, _, h3⟩ := setOpen_iff.1 h
  have hv : ∀ a : Nat, a < n → valI (tellI m s) (a : Int) = if (a : Int) ∈ s.atoms then (if 0 ≤ s.rule then 2 else 0) else valI m (a : Int) := fun a ha => tell_val h (by omega) (by omega)
  refine cnt_lt (by simp [toldB, soB]) (fun a ha => ?_) (fun he => ?_)
  · obtain ⟨han, hb⟩ := soB_in ha
    rw [toldB, soB_at (by omega) (by omega), hv a han]
    by_cases hin : (a : Int) ∈ s.atoms
    · rw [if_pos hin]; split <;> rfl
    · rw [if_neg hin, valI_nat]; exact hb
  · obtain ⟨x, hx⟩ := List.exists_mem_of_length_pos h3
    have hxr := h1 x hx
    obtain ⟨a, rfl⟩ := Int.eq_ofNat_of_zero_le hxr.1.1
    have han : a < n := by omega
    have h4 : atB (toldB n m) (a : Int) = false := by rw [toldB, soB_at (by omega) (by omega), hxr.2]; rfl
    have h5 : atB (toldB n (tellI m s)) (a : Int) = true := by
      rw [toldB, soB_at (by omega) (by omega), hv a han, if_pos hx]; split <;> rfl
    rw [he, h5] at h4
    cases h4
theorem partly_snoc : ∀ (l : List Step) (m : List Int) (s : Step), (partly rs m l).2 = l.length → partly rs m (l ++ [s]) = if stepOk rs (partly rs m l).1 s = true then (tellI (partly rs m l).1 s, l.length + 1) else ((partly rs m l).1, l.length)
  | [], m, s, _ => by
    simp [partly]
  | t :: l, m, s, h => by
    rw [partly] at h
    by_cases ht : stepOk rs m t = true
    · rw [if_pos ht] at h
      have h' : (partly rs (tellI m t) l).2 = l.length := by simpa using h
      have ih := partly_snoc l (tellI m t) s h'
      rw [List.cons_append, partly, if_pos ht, ih, partly, if_pos ht]
      split <;> simp
    · rw [if_neg ht] at h
      simp at h
/-- What is told to be so has a proof by rules that tell it. -/
def Proven (rs : List Rule) (n : Nat) (m : List Int) : Prop := ∀ a : Int, 0 ≤ a → a < n → valI m a = 2 → Der (rs.filter fun r => firesB m r) a
theorem fires_tell {m : List Int} {s : Step} (h : setOpen m s.atoms = true) {r : Rule} (hr : RuleOk m.length r) (hf : firesB m r = true) : firesB (tellI m s) r = true := by
  unfold firesB at hf ⊢
  rw [Bool.and_eq_true, areB_iff, areB_iff] at hf ⊢
  have keep : ∀ p : Int, 0 ≤ p ∧ p < m.length → valI m p ≠ 1 → valI (tellI m s) p = valI m p := fun p hp hv => by
    rw [tell_val h hp.1 hp.2, if_neg]
    intro hin
    exact hv ((setOpen_iff.1 h).1 p hin).2
  exact ⟨fun p hp => by rw [keep p (hr.2.1 p hp) (by rw [hf.1 p hp]; omega)]; exact hf.1 p hp, fun p hp => by rw [keep p (hr.2.2 p hp) (by rw [hf.2 p hp]; omega)]; exact hf.2 p hp⟩
theorem Proven.step {m : List Int} (hm : m.length = n) (hr : ∀ r ∈ rs, RuleOk n r) (hp : Proven rs n m) {s : Step} (hs : stepOk rs m s = true) : Proven rs n (tellI m s) := fun a h0 ha hv => by
  have hset := stepOk_set hs
  have mono : ∀ r ∈ (rs.filter fun r => firesB m r), r ∈ rs.filter fun r => firesB (tellI m s) r := fun r hr' => by
    obtain ⟨h1, h2⟩ := List.mem_filter.1 hr'
    exact List.mem_filter.2 ⟨h1, fires_tell hset (by rw [hm]; exact hr r h1) h2⟩
  rw [tell_val hset h0 (by omega)] at hv
  by_cases hin : a ∈ s.atoms
  · rw [if_pos hin] at hv
    by_cases h2 : 0 ≤ s.rule
    · obtain ⟨hl, h3, h4⟩ := stepOk_rule hs h2
      rw [h3] at hin
      have hah : a = rs[s.rule.toNat].head := by simpa using hin
      have hmem : rs[s.rule.toNat] ∈ rs := List.getElem_mem hl
      rw [hah]
      refine Der.mk (mono _ (List.mem_filter.2 ⟨hmem, h4⟩)) fun p hp' => Der.mono mono ?_
      have hb := (hr _ hmem).2.1 p hp'
      unfold firesB at h4
      rw [Bool.and_eq_true, areB_iff] at h4
      exact hp p hb.1 hb.2 (h4.1 p hp')
    · rw [if_neg h2] at hv; omega
  · rw [if_neg hin] at hv
    exact Der.mono mono (hp a h0 ha hv)
theorem unf_mem {m : List Int} {a : Nat} (ha : a < n) : (a : Int) ∈ unfI n rs m ↔ atB (foundB n rs m) (a : Int) = false := by
  unfold unfI
  rw [mem_pickI]
  constructor
  · rintro ⟨i, h1, h2, h3⟩
    have : i = a := by omega
    subst this
    simpa using h2
  · intro h
    exact ⟨a, ha, by rw [h]; rfl, rfl⟩
theorem unf_len (n : Nat) (rs : List Rule) (m : List Int) : (unfI n rs m).length ≤ n := pickI_len _ _
theorem openF_iff {m l : List Int} {a : Int} : a ∈ openF m l ↔ a ∈ l ∧ 0 ≤ a ∧ a < m.length ∧ valI m a = 1 := by
  simp [openF, and_assoc]
theorem unf_step (h : PrOk n rs) {m : List Int} (hm : m.length = n) (hv : ∀ a : Int, 0 ≤ a → a < n → valI m a = 0 ∨ valI m a = 1 ∨ valI m a = 2) (hp : Proven rs n m) (hne : 0 < (openF m (unfI n rs m)).length) : stepOk rs m ⟨-1, openF m (unfI n rs m)⟩ = true := by
  rw [stepOk_byset rfl, Bool.and_eq_true]
  refine ⟨setOpen_iff.2 ⟨fun a ha => ?_, ?_, hne⟩, ?_⟩
  · obtain ⟨_, h1, h2, h3⟩ := openF_iff.1 ha
    exact ⟨⟨h1, h2⟩, h3⟩
  · exact (pickI_sorted _ _).filter _
  · unfold unfOk
    rw [List.all_eq_true]
    intro r hr
    rw [Bool.not_eq_true']
    rw [Bool.eq_false_iff]
    intro hl
    unfold looseB at hl
    simp only [Bool.and_eq_true, decide_eq_true_eq, Bool.not_eq_true', Bool.or_eq_false_iff, hasB_false] at hl
    obtain ⟨⟨h1, h2, h3⟩, h4⟩ := hl
    have hrk := (h.rule r hr).1
    obtain ⟨h5, _, _, _⟩ := openF_iff.1 h1
    obtain ⟨a, ha⟩ := Int.eq_ofNat_of_zero_le hrk.1.1
    have han : a < n := by have := hrk.1.2; omega
    rw [ha, unf_mem han] at h5
    have hnf : failsB r m = false := by rw [fails_has hm hrk, hasB_false.2 h2, hasB_false.2 h3]; rfl
    have hmem : r ∈ rs.filter fun r => !failsB r m := List.mem_filter.2 ⟨hr, by rw [hnf]; rfl⟩
    have key : atB (foundB n rs m) (a : Int) = true := by
      rw [(foundB_is h m).iff (h.filter _) han, ← ha]
      refine Der.mk hmem fun p hp' => ?_
      have hb := hrk.2.1 p hp'
      obtain ⟨q, hq⟩ := Int.eq_ofNat_of_zero_le hb.1
      have hqn : q < n := by omega
      by_cases h6 : atB (foundB n rs m) (q : Int) = true
      · rw [hq]; exact ((foundB_is h m).iff (h.filter _) hqn).1 h6
      · have h7 : p ∈ unfI n rs m := by rw [hq, unf_mem hqn]; simpa using h6
        rcases hv p hb.1 hb.2 with h8 | h8 | h8
        · exact absurd h8 (h2 p hp')
        · exfalso
          have h9 : p ∈ openF m (unfI n rs m) := openF_iff.2 ⟨h7, hb.1, by omega, h8⟩
          simp only [meetB, List.any_eq_false, decide_eq_true_eq] at h4
          exact h4 p hp' h9
        · refine Der.mono (fun r' hr' => ?_) (hp p hb.1 hb.2 h8)
          obtain ⟨g1, g2⟩ := List.mem_filter.1 hr'
          refine List.mem_filter.2 ⟨g1, ?_⟩
          unfold firesB at g2
          rw [Bool.and_eq_true, areB_iff, areB_iff] at g2
          rw [fails_has hm (h.rule r' g1).1, hasB_false.2 (fun x hx => by rw [g2.1 x hx]; omega), hasB_false.2 (fun x hx => by rw [g2.2 x hx]; omega)]
          rfl
    rw [h5] at key
    cases key
/-- What the steps that are found come to. -/
structure Built (n : Nat) (rs : List Rule) (l : List Step) (m : List Int) : Prop where
  part : partly rs (startI n) l = (m, l.length)
  sound : Sound n rs m
  proven : Proven rs n m
theorem Built.add (h : PrOk n rs) {l : List Step} {m : List Int} (hb : Built n rs l m) {s : Step} (hs : stepOk rs m s = true) : Built n rs (l ++ [s]) (tellI m s) := by
  refine ⟨?_, hb.sound.step h hs, hb.proven.step hb.sound.len (fun r hr => (h.rule r hr).1) hs⟩
  have := partly_snoc (rs := rs) l (startI n) s (by rw [hb.part])
  rw [this, hb.part]
  simp [hs]
theorem fire_step (h : PrOk n rs) {m : List Int} (hm : m.length = n) {k : Nat} (hk : k < rs.length) (hf : fireI rs m = k) : stepOk rs m ⟨(k : Int), [rs[k].head]⟩ = true := by
  obtain ⟨hk', h1, _⟩ := findP_spec hf
  rw [Bool.and_eq_true, decide_eq_true_eq] at h1
  have hrk := (h.rule _ (List.getElem_mem hk)).1
  rw [stepOk_byrule rfl hk, h1.2, setOpen_iff.2 ⟨fun a ha => by
    have : a = rs[k].head := by simpa using ha
    subst this
    exact ⟨⟨hrk.1.1, by have := hrk.1.2; omega⟩, h1.1⟩, by simp, by simp⟩]
  simp
theorem goS_built (h : PrOk n rs) : ∀ (f : Nat) {l : List Step} {m : List Int}, Built n rs l m → n < f + cntB (toldB n m) → Built n rs (goS n rs f l m).1 (goS n rs f l m).2 ∧ fireI rs (goS n rs f l m).2 < 0 ∧ openF (goS n rs f l m).2 (unfI n rs (goS n rs f l m).2) = []
  | 0, l, m, _, hc => by
    have := cntB_le (toldB n m)
    simp [toldB, soB] at this hc
    omega
  | f + 1, l, m, hb, hc => by
    have hm := hb.sound.len
    rcases fire_range (rs := rs) (m := m) with h1 | ⟨k, h1, hk⟩
    · by_cases h2 : 0 < (openF m (unfI n rs m)).length
      · rw [goS_unf h1 h2]
        have hs := unf_step h hm hb.sound.v hb.proven h2
        have := told_lt hm (stepOk_set hs)
        exact goS_built h f (hb.add h hs) (by
          show n < f + cntB (toldB n (tellI m ⟨-1, openF m (unfI n rs m)⟩))
          omega)
      · rw [goS_end h1 h2]
        exact ⟨hb, h1, List.eq_nil_of_length_eq_zero (Nat.eq_zero_of_not_pos h2)⟩
    · rw [goS_fire hk h1]
      have hs := fire_step h hm hk h1
      have := told_lt hm (stepOk_set hs)
      have he : tellI m ⟨(k : Int), [rs[k].head]⟩ = m.set rs[k].head.toNat 2 := by
        unfold tellI setAll
        rw [if_pos (by show (0 : Int) ≤ k; omega)]
        rfl
      rw [← he]
      exact goS_built h f (hb.add h hs) (by omega)
theorem start_built (n : Nat) (rs : List Rule) : Built n rs [] (startI n) := ⟨rfl, Sound.start, fun a h0 ha hv => by rw [startI_val h0 ha] at hv; omega⟩
theorem steps_built (h : PrOk n rs) : Built n rs (stepsI n rs).1 (stepsI n rs).2 ∧ fireI rs (stepsI n rs).2 < 0 ∧ openF (stepsI n rs).2 (unfI n rs (stepsI n rs).2) = [] := goS_built h (n + 1) (start_built n rs) (by omega)
/-- The proof that is built is taken. -/
theorem built (h : PrOk n rs) : checkI rs n (stepsI n rs).1 (holdsI n rs (stepsI n rs).2) = some (stepsI n rs).2 := by
  obtain ⟨hb, h1, h2⟩ := steps_built h
  unfold checkI
  rw [hb.part, if_pos]
  refine ⟨rfl, ?_, fire_none h1⟩
  refine holds_held hb.sound.len hb.sound.v (fun r hr => (h.rule r hr).1) (fun a ha hv => ?_)
  have h3 : ¬ (a : Int) ∈ unfI n rs (stepsI n rs).2 := fun hin => by
    have : (a : Int) ∈ openF (stepsI n rs).2 (unfI n rs (stepsI n rs).2) := openF_iff.2 ⟨hin, by omega, by rw [hb.sound.len]; omega, by rw [valI_nat]; exact hv⟩
    rw [h2] at this
    cases this
  rw [unf_mem ha] at h3
  exact ((foundB_is h _).iff (h.filter _) ha).1 (by simpa using h3)
theorem built_model (h : PrOk n rs) : (stepsI n rs).2 = modelI n rs := check_model h (built h)
end
end Go.Proofs.Ytmkgechdfimfnaa.Pl
