/-
  Plain words: programs of which all rules are facts. No program of Go stands here.
  No condition but the premises of each theorem.
-/
import Derived.Test.YtmkgechdfimfnaaPly
namespace Go.Proofs.Ytmkgechdfimfnaa.Pl
/-- Facts, each once, in order. -/
def FactsOk (n : Nat) (F : List Rule) : Prop := (∀ r ∈ F, r.pos = [] ∧ r.neg = [] ∧ 0 ≤ r.head ∧ r.head < n) ∧ F.Pairwise (fun a b => a.head < b.head)
theorem lessI_one (a b : Int) : lessI [a] [b] = if a < b then -1 else if b < a then 1 else 0 := rfl
theorem ordS_fact {a b : Rule} (h1 : a.pos = []) (h2 : a.neg = []) (h3 : b.pos = []) (h4 : b.neg = []) : ordS a b = if a.head < b.head then -1 else if b.head < a.head then 1 else 0 := by
  unfold ordS
  rw [h1, h2, h3, h4, lessI_one]
  by_cases h5 : a.head < b.head
  · simp [h5]
  · by_cases h6 : b.head < a.head
    · simp [h5, h6]
    · simp [h5, h6, lessI]
theorem insS_facts {n : Nat} {r : Rule} (hr : r.pos = [] ∧ r.neg = [] ∧ 0 ≤ r.head ∧ r.head < n) : ∀ {F : List Rule}, FactsOk n F → FactsOk n (insS F r)
  | [], _ => ⟨by simpa [insS] using hr, by simp [insS]⟩
  | x :: F, ⟨h1, h2⟩ => by
    obtain ⟨h3, h4⟩ := List.pairwise_cons.1 h2
    have hx := h1 x (by simp)
    have ho := ordS_fact hx.1 hx.2.1 hr.1 hr.2.1
    rw [insS]
    by_cases h5 : x.head < r.head
    · rw [if_pos h5] at ho
      rw [if_pos (by omega)]
      obtain ⟨h6, h7⟩ := insS_facts hr (F := F) ⟨fun y hy => h1 y (by simp [hy]), h4⟩
      refine ⟨fun y hy => ?_, List.pairwise_cons.2 ⟨fun y hy => ?_, h7⟩⟩
      · rcases List.mem_cons.1 hy with rfl | hy
        · exact hx
        · exact h6 y hy
      · rcases insS_mem hy with rfl | hy
        · exact h5
        · exact h3 y hy
    · rw [if_neg h5] at ho
      by_cases h6 : r.head < x.head
      · rw [if_pos h6] at ho
        rw [if_neg (by omega), if_neg (by omega)]
        refine ⟨fun y hy => ?_, List.pairwise_cons.2 ⟨fun y hy => ?_, h2⟩⟩
        · rcases List.mem_cons.1 hy with rfl | hy
          · exact hr
          · exact h1 y hy
        · rcases List.mem_cons.1 hy with rfl | hy
          · exact h6
          · have := h3 y hy; omega
      · rw [if_neg h6] at ho
        rw [if_neg (by omega), if_pos ho]
        exact ⟨h1, h2⟩
theorem foldS_facts {n : Nat} : ∀ {l F : List Rule}, (∀ r ∈ l, r.pos = [] ∧ r.neg = [] ∧ 0 ≤ r.head ∧ r.head < n) → FactsOk n F → FactsOk n (l.foldl insS F)
  | [], _, _, h => h
  | r :: l, F, hl, h => foldS_facts (l := l) (fun y hy => hl y (by simp [hy])) (insS_facts (hl r (by simp)) h)
def factsOf (rs : List Rule) : List Rule := rs.map fun r => ⟨r.head, [], []⟩
theorem facts_ok {n : Nat} {rs : List Rule} (h : PrOk n rs) : FactsOk n (rulesS (factsOf rs)) := by
  refine foldS_facts (fun r hr => ?_) ⟨by simp, List.Pairwise.nil⟩
  obtain ⟨q, hq, rfl⟩ := List.mem_map.1 hr
  have := (h.rule q hq).1.1
  exact ⟨rfl, rfl, this.1, this.2⟩
theorem FactsOk.prok {n : Nat} {F : List Rule} (h : FactsOk n F) (hn : n ≤ 1000) (hl : F.length ≤ 1000) : PrOk n F := ⟨hn, hl, fun r hr => by
  obtain ⟨h1, h2, h3, h4⟩ := h.1 r hr
  refine ⟨⟨⟨h3, h4⟩, ?_, ?_⟩, ?_⟩
  · rw [h1]; simp
  · rw [h2]; simp
  · rw [h1]; simp⟩
section
variable {n : Nat} {F : List Rule}
theorem FactsOk.fires (h : FactsOk n F) {r : Rule} (hr : r ∈ F) (m : List Int) : firesB m r = true := by
  obtain ⟨h1, h2, _⟩ := h.1 r hr
  unfold firesB
  rw [h1, h2]
  rfl
theorem FactsOk.inj (h : FactsOk n F) {i j : Nat} (hi : i < F.length) (hj : j < F.length) (he : F[i].head = F[j].head) : i = j := by
  rcases Nat.lt_trichotomy i j with h1 | h1 | h1
  · have := List.pairwise_iff_getElem.1 h.2 i j hi hj h1; omega
  · exact h1
  · have := List.pairwise_iff_getElem.1 h.2 j i hj hi h1; omega
theorem FactsOk.heads (h : FactsOk n F) : (F.map (·.head)).Nodup ∧ ∀ x : Int, x ∈ F.map (·.head) → 0 ≤ x ∧ x < n := by
  refine ⟨?_, fun x hx => ?_⟩
  · have := h.2.map (f := fun r : Rule => r.head) (R := fun a b : Rule => a.head < b.head) (S := (· < ·)) (fun a b hab => hab)
    exact this.imp (fun h => by omega)
  · obtain ⟨r, hr, rfl⟩ := List.mem_map.1 hx
    exact (h.1 r hr).2.2
theorem FactsOk.lt (h : FactsOk n F) {x : Int} (h0 : 0 ≤ x) (h1 : x < n) (hx : x ∉ F.map (·.head)) : F.length < n := by
  obtain ⟨h2, h3⟩ := h.heads
  have h9 := nodup_sub (l := x :: F.map (·.head)) (O := (List.range n).map (fun (i : Nat) => (i : Int))) (List.nodup_cons.2 ⟨hx, h2⟩) (fun y hy => by
    rw [List.mem_map]
    have hyr : 0 ≤ y ∧ y < n := by
      rcases List.mem_cons.1 hy with rfl | hy
      · exact ⟨h0, h1⟩
      · exact h3 y hy
    exact ⟨y.toNat, List.mem_range.2 (by omega), by omega⟩)
  simp only [List.length_cons, List.length_map, List.length_range] at h9
  omega
theorem FactsOk.le (h : FactsOk n F) : F.length ≤ n := by
  obtain ⟨h2, h3⟩ := h.heads
  have h9 := nodup_sub (l := F.map (·.head)) (O := (List.range n).map (fun (i : Nat) => (i : Int))) h2 (fun y hy => by
    rw [List.mem_map]
    have hyr := h3 y hy
    exact ⟨y.toNat, List.mem_range.2 (by omega), by omega⟩)
  simpa using h9
/-- The first steps: each fact by its rule. -/
def factSteps (F : List Rule) (j : Nat) : List Step := (List.range j).map fun (i : Nat) => ⟨(i : Int), [headOf F i]⟩
theorem factSteps_succ (F : List Rule) (j : Nat) : factSteps F (j + 1) = factSteps F j ++ [⟨(j : Int), [headOf F j]⟩] := by simp [factSteps, List.range_succ]
theorem factSteps_len (F : List Rule) (j : Nat) : (factSteps F j).length = j := by simp [factSteps]
theorem facts_go (h : FactsOk n F) (hP : PrOk n F) : ∀ (j : Nat), j ≤ F.length → ∃ m, Built n F (factSteps F j) m ∧ stepsI n F = goS n F (n + 1 - j) (factSteps F j) m ∧ ∀ x : Int, 0 ≤ x → x < n → valI m x = if x ∈ (F.take j).map (·.head) then 2 else 1
  | 0, _ => ⟨startI n, start_built n F, rfl, fun x h0 h1 => by rw [startI_val h0 h1]; simp⟩
  | j + 1, hj => by
    obtain ⟨m, hb, hg, hv⟩ := facts_go h hP j (by omega)
    have hjl : j < F.length := by omega
    have hle := h.le
    have hm := hb.sound.len
    have hopen : ∀ (i : Nat) (hi : i < F.length), valI m F[i].head = if i < j then 2 else 1 := fun i hi => by
      obtain ⟨_, _, h0, h1⟩ := h.1 _ (List.getElem_mem hi)
      rw [hv _ h0 h1]
      by_cases hij : i < j
      · rw [if_pos hij, if_pos]
        exact List.mem_map.2 ⟨F[i], by rw [List.mem_take_iff_getElem]; exact ⟨i, by omega, rfl⟩, rfl⟩
      · rw [if_neg hij, if_neg]
        intro hin
        obtain ⟨r, hr, he⟩ := List.mem_map.1 hin
        rw [List.mem_take_iff_getElem] at hr
        obtain ⟨k, hk, rfl⟩ := hr
        have := h.inj (by omega) hi he
        omega
    have hf : fireI F m = j := findP_at hjl (by rw [hopen j hjl, if_neg (Nat.lt_irrefl _), h.fires (List.getElem_mem hjl)]; rfl) (fun i hi hij => by rw [hopen i hi, if_pos hij]; rfl)
    have hs := fire_step hP hm hjl hf
    have he : tellI m ⟨(j : Int), [F[j].head]⟩ = m.set F[j].head.toNat 2 := by
      unfold tellI setAll
      rw [if_pos (by show (0 : Int) ≤ j; omega)]
      rfl
    refine ⟨tellI m ⟨(j : Int), [F[j].head]⟩, ?_, ?_, fun x h0 h1 => ?_⟩
    · rw [factSteps_succ, headOf_nat hjl]
      exact hb.add hP hs
    · rw [hg, show n + 1 - j = (n + 1 - (j + 1)) + 1 from by omega, goS_fire hjl hf, factSteps_succ, headOf_nat hjl, he]
    · rw [tell_val (stepOk_set hs) h0 (by rw [hm]; exact h1), hv x h0 h1, List.take_succ_eq_append_getElem hjl, List.map_append]
      by_cases hx : x = F[j].head
      · subst hx
        simp
      · simp [hx]
/-- What the proof of a program of facts is. -/
theorem facts_why (h : FactsOk n F) (hP : PrOk n F) : (∃ rest, (whyP n F).1 = factSteps F F.length ++ rest ∧ rest.length ≤ 1) ∧ ((whyP n F).1.length = F.length ↔ F.length = n) := by
  obtain ⟨m, hb, hg, hv⟩ := facts_go h hP F.length (Nat.le_refl _)
  rw [List.take_length] at hv
  have hle := h.le
  have hm := hb.sound.len
  have hnf : ∀ m' : List Int, (∀ x : Int, 0 ≤ x → x < n → x ∈ F.map (·.head) → valI m' x ≠ 1) → fireI F m' < 0 := fun m' hm' => by
    rcases fire_range (rs := F) (m := m') with h1 | ⟨k, h1, hk⟩
    · exact h1
    · exfalso
      obtain ⟨_, h2, _⟩ := findP_spec h1
      rw [Bool.and_eq_true, decide_eq_true_eq] at h2
      obtain ⟨_, _, h3, h4⟩ := h.1 _ (List.getElem_mem hk)
      exact hm' _ h3 h4 (List.mem_map.2 ⟨_, List.getElem_mem hk, rfl⟩) h2.1
  have hf := hnf m (fun x h0 h1 hx => by rw [hv x h0 h1, if_pos hx]; decide)
  have hunf : ∀ x : Int, 0 ≤ x → x < n → x ∉ F.map (·.head) → x ∈ openF m (unfI n F m) := fun x h0 h1 hx => by
    obtain ⟨k, rfl⟩ := Int.eq_ofNat_of_zero_le h0
    have hk : k < n := by omega
    refine openF_iff.2 ⟨(unf_mem hk).2 ?_, h0, by rw [hm]; exact h1, by rw [hv _ h0 h1, if_neg hx]⟩
    rw [← Bool.not_eq_true]
    intro hh
    have hd := ((foundB_is hP m).iff (hP.filter _) hk).1 hh
    have := hd (fun y => y ∈ F.map (·.head)) (fun r hr _ => List.mem_map.2 ⟨r, (List.mem_filter.1 hr).1, rfl⟩)
    exact hx this
  have h1 : n + 1 - F.length = (n - F.length) + 1 := by omega
  rw [h1] at hg
  by_cases h2 : 0 < (openF m (unfI n F m)).length
  · have h3 : F.length < n := by
      obtain ⟨x, hx⟩ := List.length_pos_iff_exists_mem.1 h2
      obtain ⟨_, h0, h4, h5⟩ := openF_iff.1 hx
      rw [hm] at h4
      refine h.lt h0 h4 fun hin => ?_
      rw [hv x h0 h4, if_pos hin] at h5
      omega
    have hs := unf_step hP hm hb.sound.v hb.proven h2
    have hb2 := hb.add hP hs
    have hem := unf_again hP hm (stepOk_set hs)
    have hf2 := hnf (tellI m ⟨-1, openF m (unfI n F m)⟩) (fun x h0 h4 hx => by
      rw [tell_val (stepOk_set hs) h0 (by rw [hm]; exact h4)]
      split
      · show (if (0 : Int) ≤ -1 then (2 : Int) else 0) ≠ 1
        decide
      · rw [hv x h0 h4, if_pos hx]; decide)
    rw [goS_unf hf h2, show n - F.length = (n - F.length - 1) + 1 from by omega] at hg
    have he : setAll m (openF m (unfI n F m)) 0 = tellI m ⟨-1, openF m (unfI n F m)⟩ := rfl
    rw [he, goS_end hf2 (by rw [hem]; simp)] at hg
    have hw : (whyP n F).1 = factSteps F F.length ++ [⟨-1, openF m (unfI n F m)⟩] := by
      unfold whyP
      rw [hg]
    rw [hw]
    refine ⟨⟨_, rfl, by simp⟩, ?_⟩
    rw [List.length_append, factSteps_len]
    simp
    omega
  · rw [goS_end hf h2] at hg
    have hw : (whyP n F).1 = factSteps F F.length := by
      unfold whyP
      rw [hg]
    rw [hw]
    refine ⟨⟨[], by simp, by simp⟩, ?_⟩
    rw [factSteps_len]
    refine ⟨fun _ => ?_, fun _ => rfl⟩
    by_cases h3 : F.length = n
    · exact h3
    · exfalso
      obtain ⟨h4, h5⟩ := h.heads
      have h6 : ∃ k : Nat, k < n ∧ (k : Int) ∉ F.map (·.head) := by
        by_cases hh : ∃ k : Nat, k < n ∧ (k : Int) ∉ F.map (·.head)
        · exact hh
        · exfalso
          have h9 := nodup_sub (l := (List.range n).map (fun (i : Nat) => (i : Int))) (O := F.map (·.head)) (List.Pairwise.map (fun (i : Nat) => (i : Int)) (fun a b hab hh => hab (by omega)) List.nodup_range) (fun y hy => by
            obtain ⟨k, hk, rfl⟩ := List.mem_map.1 hy
            by_cases hin : (k : Int) ∈ F.map (·.head)
            · exact hin
            · exact absurd ⟨k, List.mem_range.1 hk, hin⟩ hh)
          simp only [List.length_map, List.length_range] at h9
          omega
      obtain ⟨k, hk, hn⟩ := h6
      have := hunf (k : Int) (by omega) (by omega) hn
      exact h2 (List.length_pos_of_mem this)
theorem facts_rule (h : FactsOk n F) (hP : PrOk n F) {i : Nat} (hi : i < F.length) : ∃ hl : i < (whyP n F).1.length, (whyP n F).1[i].rule = i := by
  obtain ⟨⟨rest, h1, _⟩, _⟩ := facts_why h hP
  have h2 : i < (factSteps F F.length).length := by rw [factSteps_len]; exact hi
  have h3 : i < (whyP n F).1.length := by rw [h1, List.length_append]; omega
  refine ⟨h3, ?_⟩
  have h4 : (whyP n F).1[i]? = some ⟨(i : Int), [headOf F i]⟩ := by
    rw [h1, List.getElem?_append_left h2]
    simp [factSteps, hi]
  rw [List.getElem?_eq_getElem h3] at h4
  rw [Option.some.inj h4]
theorem facts_told (h : FactsOk n F) (hP : PrOk n F) {a : Int} (h0 : 0 ≤ a) (ha : a < n) : valI (stepsI n F).2 a ≠ 1 := fun hv => by
  obtain ⟨hb, h1, h2⟩ := steps_built hP
  have hm := hb.sound.len
  obtain ⟨k, rfl⟩ := Int.eq_ofNat_of_zero_le h0
  have hk : k < n := by omega
  by_cases hin : (k : Int) ∈ F.map (·.head)
  · obtain ⟨r, hr, he⟩ := List.mem_map.1 hin
    have h3 := List.any_eq_false.1 (fire_none h1) r hr
    rw [he, hv, h.fires hr] at h3
    exact h3 rfl
  · have h3 : (k : Int) ∈ openF (stepsI n F).2 (unfI n F (stepsI n F).2) := openF_iff.2 ⟨(unf_mem hk).2 (by
      rw [← Bool.not_eq_true]
      intro hh
      have hd := ((foundB_is hP (stepsI n F).2).iff (hP.filter _) hk).1 hh
      exact hin (hd (fun y => y ∈ F.map (·.head)) (fun r hr _ => List.mem_map.2 ⟨r, (List.mem_filter.1 hr).1, rfl⟩))), h0, by rw [hm]; exact ha, hv⟩
    rw [h2] at h3
    cases h3
theorem facts_holds (h : FactsOk n F) (hP : PrOk n F) : (whyP n F).2 = [] := by
  cases hw : (whyP n F).2 with
  | nil => rfl
  | cons x t =>
    exfalso
    have hq := (why_held hP).1
    rw [hw] at hq
    obtain ⟨k, hk, _, hs, _⟩ := hq
    have hrk := (hP.rule _ (List.getElem_mem hk)).1.1
    exact facts_told h hP hrk.1 hrk.2 (supH_iff.1 hs).1
theorem facts_leans (h : FactsOk n F) (hP : PrOk n F) {l : List Step} (hr : Runs n F l) {m : List Int} {i : Nat} (hi : i < l.length) : leansI F l m i l[i] = [] := by
  by_cases h0 : 0 ≤ l[i].rule
  · obtain ⟨hrl, _⟩ := hr.fires hP hi h0
    rw [leansI_rule h0 hrl]
    obtain ⟨h1, h2, _⟩ := h.1 _ (List.getElem_mem hrl)
    rw [h1, h2]
    rfl
  · rw [leansI_set (by omega), List.flatMap_eq_nil_iff]
    intro c hc
    have hof : ofI F c = [] := by
      rw [List.eq_nil_iff_forall_not_mem]
      intro y hy
      obtain ⟨x, hx, rfl, hxh⟩ := ofI_mem hy
      obtain ⟨_, h2⟩ := stepOk_unf (hr i hi) (by omega)
      have h3 := List.all_eq_true.1 h2 F[x] (List.getElem_mem hx)
      rw [loose_tied hx, hxh, decide_eq_true hc, tiedB_at hx] at h3
      obtain ⟨h4, h5, _⟩ := h.1 _ (List.getElem_mem hx)
      rw [h4, h5] at h3
      cases h3
    unfold atomR
    rw [hof]
    rfl
/-- Of a program of facts the part that an atom needs is one step. -/
theorem facts_for (h : FactsOk n F) (hP : PrOk n F) {a : Int} (h0 : 0 ≤ a) (ha : a < n) : (forI n F (whyP n F) a).1.length = 1 := by
  have hwr := (why_runs hP).1
  have hby : 0 ≤ byI (whyP n F).1 a := by
    have h1 := facts_told h hP h0 ha
    rw [← why_known hP, known_val h0 ha] at h1
    by_cases h2 : 0 ≤ byI (whyP n F).1 a
    · exact h2
    · rw [if_neg h2] at h1; exact absurd rfl h1
  rw [for_by h0 ha hby]
  have p := hwr.part hP hby
  obtain ⟨i, hi, hon⟩ := p.has
  obtain ⟨hil, _⟩ := byI_mem hi
  have key := p.least (fun j => j = i) (fun j hj => by omega) (fun k hk _ _ b hb => by
    rw [facts_leans h hP hwr hk] at hb
    cases hb)
  obtain ⟨h1, _⟩ := part_at p.len hon hil
  show (partI (whyP n F).1 (needI n F (whyP n F).1 a)).length = 1
  by_cases h2 : (partI (whyP n F).1 (needI n F (whyP n F).1 a)).length = 1
  · exact h2
  · exfalso
    have hlen : 1 < (partI (whyP n F).1 (needI n F (whyP n F).1 a)).length := by omega
    obtain ⟨j0, _, hon0, hr0, _⟩ := part_idx p.len (t := 0) (by omega)
    obtain ⟨j1, _, hon1, hr1, _⟩ := part_idx p.len (t := 1) hlen
    have := key j0 hon0
    have := key j1 hon1
    subst_vars
    omega
end
end Go.Proofs.Ytmkgechdfimfnaa.Pl
