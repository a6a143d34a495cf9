/-
  Plain words: no two sets behind each other; what holds up what is open. No program of Go stands here.
  No condition but the premises of each theorem.
-/
import Derived.Test.YtmkgechdfimfnaaPlq
namespace Go.Proofs.Ytmkgechdfimfnaa.Pl
section
variable {n : Nat} {rs : List Rule}
/-- When a set is told not to be so, no other is to be told behind it. -/
theorem unf_again (h : PrOk n rs) {m : List Int} (hm : m.length = n) (hset : setOpen m (openF m (unfI n rs m)) = true) : openF (tellI m ⟨-1, openF m (unfI n rs m)⟩) (unfI n rs (tellI m ⟨-1, openF m (unfI n rs m)⟩)) = [] := by
  rw [List.eq_nil_iff_forall_not_mem]
  intro a ha
  have hv : ∀ x : Int, 0 ≤ x → x < n → valI (tellI m ⟨-1, openF m (unfI n rs m)⟩) x = if x ∈ openF m (unfI n rs m) then 0 else valI m x := fun x h0 h1 => by
    have h2 := tell_val (s := ⟨-1, openF m (unfI n rs m)⟩) hset h0 (by rw [hm]; exact h1)
    rw [h2]
    rfl
  have hlen : (tellI m ⟨-1, openF m (unfI n rs m)⟩).length = n := by rw [tellI_len]; exact hm
  obtain ⟨hU, h0, h1, hva⟩ := openF_iff.1 ha
  rw [hlen] at h1
  rw [hv a h0 h1] at hva
  have haU : a ∉ openF m (unfI n rs m) := fun hin => by rw [if_pos hin] at hva; omega
  rw [if_neg haU] at hva
  obtain ⟨k, rfl⟩ := Int.eq_ofNat_of_zero_le h0
  have hk : k < n := by omega
  have h2 : (k : Int) ∉ unfI n rs m := fun hin => haU (openF_iff.2 ⟨hin, h0, by rw [hm]; exact h1, hva⟩)
  rw [unf_mem hk] at h2 hU
  have h3 : Der (rs.filter fun r => !failsB r m) (k : Int) := ((foundB_is h _).iff (h.filter _) hk).1 (by simpa using h2)
  have h4 : Der (rs.filter fun r => !failsB r (tellI m ⟨-1, openF m (unfI n rs m)⟩)) (k : Int) := by
    have key := h3 (fun x => Der (rs.filter fun r => !failsB r m) x ∧ Der (rs.filter fun r => !failsB r (tellI m ⟨-1, openF m (unfI n rs m)⟩)) x) (fun r hr hp => by
      refine ⟨Der.mk hr fun p hpp => (hp p hpp).1, Der.mk ?_ fun p hpp => (hp p hpp).2⟩
      obtain ⟨hrs, hnf⟩ := List.mem_filter.1 hr
      refine List.mem_filter.2 ⟨hrs, ?_⟩
      have hrk := (h.rule r hrs).1
      rw [fails_has hm hrk, Bool.not_eq_true', Bool.or_eq_false_iff, hasB_false, hasB_false] at hnf
      rw [fails_has hlen hrk, Bool.not_eq_true', Bool.or_eq_false_iff, hasB_false, hasB_false]
      refine ⟨fun p hpp => ?_, fun p hpp => ?_⟩
      · have hb := hrk.2.1 p hpp
        rw [hv p hb.1 hb.2]
        by_cases h5 : p ∈ openF m (unfI n rs m)
        · exfalso
          obtain ⟨j, rfl⟩ := Int.eq_ofNat_of_zero_le hb.1
          have hj : j < n := by omega
          have h6 := (openF_iff.1 h5).1
          rw [unf_mem hj] at h6
          have h7 := ((foundB_is h m).iff (h.filter _) hj).2 (hp _ hpp).1
          rw [h6] at h7
          cases h7
        · rw [if_neg h5]
          exact hnf.1 p hpp
      · have hb := hrk.2.2 p hpp
        rw [hv p hb.1 hb.2]
        split
        · decide
        · exact hnf.2 p hpp)
    exact key.2
  have h5 := ((foundB_is h (tellI m ⟨-1, openF m (unfI n rs m)⟩)).iff (h.filter _) hk).2 h4
  rw [hU] at h5
  cases h5
def NoTwo (l : List Step) : Prop := ∀ (i : Nat) (h : i + 1 < l.length), ¬ (l[i].rule < 0 ∧ l[i + 1].rule < 0)
theorem NoTwo.snoc {l : List Step} {s : Step} (h : NoTwo l) (hs : ∀ t ∈ l.getLast?, ¬ (t.rule < 0 ∧ s.rule < 0)) : NoTwo (l ++ [s]) := fun i hi => by
  simp only [List.length_append, List.length_cons, List.length_nil] at hi
  by_cases h1 : i + 1 < l.length
  · rw [List.getElem_append_left h1, List.getElem_append_left (by omega : i < l.length)]
    exact h i h1
  · have h2 : i + 1 = l.length := by omega
    have h3 : l.getLast? = some l[i] := by
      rw [List.getLast?_eq_getElem?, show l.length - 1 = i from by omega, List.getElem?_eq_getElem (by omega)]
    rw [List.getElem_append_left (by omega : i < l.length), List.getElem_append_right (by omega)]
    simpa using hs _ (by rw [h3]; rfl)
theorem goS_two (h : PrOk n rs) : ∀ (f : Nat) {l : List Step} {m : List Int}, Built n rs l m → NoTwo l → (∀ t ∈ l.getLast?, t.rule < 0 → openF m (unfI n rs m) = []) → NoTwo (goS n rs f l m).1
  | 0, l, m, _, ht, _ => ht
  | f + 1, l, m, hb, ht, hl => by
    have hm := hb.sound.len
    rcases fire_range (rs := rs) (m := m) with h1 | ⟨k, h1, hk⟩
    · by_cases h2 : 0 < (openF m (unfI n rs m)).length
      · rw [goS_unf h1 h2]
        have hs := unf_step h hm hb.sound.v hb.proven h2
        refine goS_two h f (hb.add h hs) (ht.snoc fun t htl hh => ?_) (fun t htl hh => unf_again h hm (stepOk_set hs))
        rw [hl t htl hh.1] at h2
        simp at h2
      · rw [goS_end h1 h2]
        exact ht
    · rw [goS_fire hk h1]
      have hs := fire_step h hm hk h1
      have he : tellI m ⟨(k : Int), [rs[k].head]⟩ = m.set rs[k].head.toNat 2 := by
        unfold tellI setAll
        rw [if_pos (by show (0 : Int) ≤ k; omega)]
        rfl
      rw [← he]
      refine goS_two h f (hb.add h hs) (ht.snoc fun t _ hh => ?_) (fun t htl hh => ?_)
      · have := hh.2
        simp only at this
        omega
      · simp only [List.getLast?_append, List.getLast?_singleton, Option.some_or, Option.mem_def, Option.some.injEq] at htl
        subst htl
        simp only at hh
        omega
theorem why_two (h : PrOk n rs) : NoTwo (whyP n rs).1 := goS_two h (n + 1) (start_built n rs) (fun i hi => by simp at hi) (fun t ht => by simp at ht)

/-! ### What holds up what is open -/
def HeldSeq (rs : List Rule) (m : List Int) : List Int → List Int → Prop
  | _, [] => True
  | heads, i :: out => ∃ (k : Nat) (hk : k < rs.length), i = k ∧ supH m heads rs[k] = true ∧ HeldSeq rs m (heads ++ [rs[k].head]) out
theorem headOf_nat {k : Nat} (hk : k < rs.length) : headOf rs (k : Int) = rs[k].head := by simp [headOf, hk]
theorem HeldSeq.at_ {m : List Int} : ∀ (out heads : List Int), HeldSeq rs m heads out → ∀ (i : Nat) (hi : i < out.length), ∃ (k : Nat) (hk : k < rs.length), out[i] = k ∧ supH m (heads ++ (out.take i).map (headOf rs)) rs[k] = true
  | [], _, _, i, hi => by simp at hi
  | j :: out, heads, ⟨k, hk, he, hs, ht⟩, 0, _ => ⟨k, hk, he, by simpa using hs⟩
  | j :: out, heads, ⟨k, hk, he, hs, ht⟩, i + 1, hi => by
    obtain ⟨k2, hk2, h1, h2⟩ := HeldSeq.at_ out _ ht i (by simpa using hi)
    refine ⟨k2, hk2, by simpa using h1, ?_⟩
    rw [List.take_succ_cons, List.map_cons, he, headOf_nat hk]
    simpa using h2
theorem HeldSeq.snoc {m : List Int} : ∀ (out heads : List Int) {k : Nat} (hk : k < rs.length), HeldSeq rs m heads out → supH m (heads ++ out.map (headOf rs)) rs[k] = true → HeldSeq rs m heads (out ++ [(k : Int)])
  | [], heads, k, hk, _, hs => ⟨k, hk, rfl, by simpa using hs, trivial⟩
  | j :: out, heads, k, hk, ⟨k2, hk2, he, hs2, ht⟩, hs => ⟨k2, hk2, he, hs2, HeldSeq.snoc out _ hk ht (by rw [List.map_cons, he, headOf_nat hk2] at hs; simpa using hs)⟩
theorem goT_seq {m : List Int} (hr : ∀ r ∈ rs, RuleOk n r) : ∀ (f : Nat) {out heads : List Int}, HeldSeq rs m [] out → heads = out.map (headOf rs) → heads.Nodup → (∀ x ∈ heads, 0 ≤ x ∧ x < n) → n < f + heads.length → HeldSeq rs m [] (goT rs m f out heads) ∧ ∀ r ∈ rs, supH m ((goT rs m f out heads).map (headOf rs)) r = false
  | 0, out, heads, _, _, hn, hx, hf => by
    have h9 := nodup_sub (l := heads) (O := (List.range n).map (fun (i : Nat) => (i : Int))) hn (fun x hxx => by
      rw [List.mem_map]
      have hxr := hx x hxx
      exact ⟨x.toNat, List.mem_range.2 (by omega), by omega⟩)
    simp only [List.length_map, List.length_range] at h9
    omega
  | f + 1, out, heads, hq, he, hn, hx, hf => by
    rcases findP_lt (supH m heads) rs with h1 | ⟨k, hk, h1, h2, _⟩
    · rw [goT_end h1]
      refine ⟨hq, fun r hrs => ?_⟩
      have h3 := findP_any (supH m heads) rs
      rw [decide_eq_false (by omega)] at h3
      have := List.any_eq_false.1 h3.symm r hrs
      rw [← he]
      simpa using this
    · rw [goT_go hk h1]
      have hnew := supH_new h2
      refine goT_seq hr f (hq.snoc _ _ hk (by rw [List.nil_append, ← he]; exact h2)) (by rw [List.map_append, ← he, List.map_cons, List.map_nil, headOf_nat hk]) (nodup_snoc hn hnew) (fun x hxx => ?_) (by simp; omega)
      rcases List.mem_append.1 hxx with hxx | hxx
      · exact hx x hxx
      · have : x = rs[k].head := by simpa using hxx
        subst this
        exact (hr _ (List.getElem_mem hk)).1
theorem supH_iff {m heads : List Int} {r : Rule} : supH m heads r = true ↔ valI m r.head = 1 ∧ r.head ∉ heads ∧ (∀ p ∈ r.pos, valI m p ≠ 0) ∧ (∀ p ∈ r.neg, valI m p ≠ 2) ∧ ∀ p ∈ r.pos, valI m p = 1 → p ∈ heads := by
  unfold supH
  simp only [Bool.and_eq_true, Bool.not_eq_true', decide_eq_true_eq, decide_eq_false_iff_not, hasB_false, List.any_eq_false]
  constructor
  · rintro ⟨⟨⟨⟨h1, h2⟩, h3⟩, h4⟩, h5⟩
    refine ⟨h1, h2, h3, h4, fun p hp hv => ?_⟩
    by_cases hh : p ∈ heads
    · exact hh
    · exact absurd ⟨hv, hh⟩ (h5 p hp)
  · rintro ⟨h1, h2, h3, h4, h5⟩
    exact ⟨⟨⟨⟨h1, h2⟩, h3⟩, h4⟩, fun p hp hh => hh.2 (h5 p hp hh.1)⟩
theorem why_known (hP : PrOk n rs) : knownI n (whyP n rs).1 = (stepsI n rs).2 := by
  obtain ⟨hb, _⟩ := steps_built hP
  have h1 := hb.runs
  show knownI n (stepsI n rs).1 = _
  rw [h1.1.known, h1.2]
/-- What is held, behind the steps: all that is open, and nothing else. -/
theorem why_held (h : PrOk n rs) : HeldSeq rs (stepsI n rs).2 [] (whyP n rs).2 ∧ (∀ a : Int, 0 ≤ a → a < n → (a ∈ (whyP n rs).2.map (headOf rs) ↔ valI (stepsI n rs).2 a = 1)) ∧ leftB rs (stepsI n rs).2 = false := by
  obtain ⟨hb, h1, h2⟩ := steps_built h
  have hm := hb.sound.len
  have hr : ∀ r ∈ rs, RuleOk n r := fun r hr => (h.rule r hr).1
  obtain ⟨hq, hc⟩ := goT_seq (m := (stepsI n rs).2) hr (n + 1) (out := []) (heads := []) trivial rfl List.nodup_nil (by simp) (by simp)
  refine ⟨hq, fun a h0 ha => ?_, fire_none h1⟩
  constructor
  · intro hin
    obtain ⟨i, hi, rfl⟩ := List.mem_map.1 hin
    obtain ⟨j, hj, rfl⟩ := List.getElem_of_mem hi
    obtain ⟨k, hk, h3, h4⟩ := hq.at_ _ _ j hj
    have h3' : (whyP n rs).2[j] = k := h3
    rw [h3', headOf_nat hk]
    exact (supH_iff.1 h4).1
  · intro hv
    obtain ⟨k, rfl⟩ := Int.eq_ofNat_of_zero_le h0
    have hk : k < n := by omega
    have h3 : ¬ (k : Int) ∈ unfI n rs (stepsI n rs).2 := fun hin => by
      have : (k : Int) ∈ openF (stepsI n rs).2 (unfI n rs (stepsI n rs).2) := openF_iff.2 ⟨hin, by omega, by rw [hm]; omega, hv⟩
      rw [h2] at this
      cases this
    rw [unf_mem hk] at h3
    have hd := ((foundB_is h (stepsI n rs).2).iff (h.filter _) hk).1 (by simpa using h3)
    have := hd (fun x => valI (stepsI n rs).2 x ≠ 1 ∨ x ∈ (whyP n rs).2.map (headOf rs)) (fun r hr' hp => by
      obtain ⟨h4, h5⟩ := List.mem_filter.1 hr'
      have hrk := hr r h4
      rw [fails_has hm hrk, Bool.not_eq_true', Bool.or_eq_false_iff, hasB_false, hasB_false] at h5
      by_cases h6 : valI (stepsI n rs).2 r.head = 1
      · by_cases h7 : r.head ∈ (whyP n rs).2.map (headOf rs)
        · exact .inr h7
        · exfalso
          have h8 := hc r h4
          have h9 : supH (stepsI n rs).2 ((whyP n rs).2.map (headOf rs)) r = true := supH_iff.2 ⟨h6, h7, h5.1, h5.2, fun p hpp hv1 => (hp p hpp).resolve_left (fun hh => hh hv1)⟩
          have h8' : supH (stepsI n rs).2 ((whyP n rs).2.map (headOf rs)) r = false := h8
          rw [h9] at h8'
          cases h8'
      · exact .inl h6)
    rcases this with h4 | h4
    · exact absurd hv h4
    · exact h4
/-- A rule that is held, in its turn. -/
theorem held_step (h : PrOk n rs) {i : Nat} (hi : i < (whyP n rs).2.length) : ∃ (k : Nat) (hk : k < rs.length), (whyP n rs).2[i] = k ∧ supD (knownI n (whyP n rs).1) (marks n (((whyP n rs).2.take i).map (headOf rs))) rs[k] = true ∧ marks n (((whyP n rs).2.take (i + 1)).map (headOf rs)) = (marks n (((whyP n rs).2.take i).map (headOf rs))).set rs[k].head.toNat true := by
  obtain ⟨k, hk, h1, h2⟩ := (why_held h).1.at_ _ _ i hi
  refine ⟨k, hk, h1, ?_, ?_⟩
  · rw [supD_marks (h.rule _ (List.getElem_mem hk)).1, why_known h]
    simpa using h2
  · rw [List.take_succ_eq_append_getElem hi, List.map_append, List.map_cons, List.map_nil, h1, headOf_nat hk, marks_add (h.rule _ (List.getElem_mem hk)).1.1.1]
theorem held_end (h : PrOk n rs) {a : Nat} (ha : a < n) : (marks n ((whyP n rs).2.map (headOf rs))).getD a false = decide (valI (knownI n (whyP n rs).1) (a : Int) = 1) := by
  have h1 := marks_at (n := n) (heads := (whyP n rs).2.map (headOf rs)) (a := (a : Int)) (by omega) (by omega)
  rw [show ((a : Nat) : Int).toNat = a from rfl] at h1
  rw [h1, why_known h]
  exact decide_eq_decide.2 ((why_held h).2.1 a (by omega) (by omega))
theorem held_none (h : PrOk n rs) {k : Nat} (hk : k < rs.length) : (decide (valI (knownI n (whyP n rs).1) rs[k].head = 1) && firesB (knownI n (whyP n rs).1) rs[k]) = false := by
  have h1 := (why_held h).2.2
  rw [why_known h]
  have := List.any_eq_false.1 h1 rs[k] (List.getElem_mem hk)
  simpa using this
end
end Go.Proofs.Ytmkgechdfimfnaa.Pl
