/-
  Plain words: a heap behind a collection; a heap that was undone behind one; a collection that changes nothing. No program of Go stands here.
  No condition but the premises of each theorem.
-/
import Derived.Test.YtnmkffkalnkbbaaPhk
namespace Go.Proofs.Ytnmkffkalnkbbaa.Pl
set_option linter.unusedVariables false
set_option linter.unusedSimpArgs false
theorem atB_val {l : List Bool} {p : Nat} (h : p < l.length) : atB l p = l[p] := by rw [atB_nat]; simp [h]
theorem mov_live {l : List Bool} {p : Nat} (h : atB l p = true) : valI (movedI l) p = cntB (l.take p) := by
  have h0 := atB_lt h
  have h' : p < (movedI l).length := by rw [movedI_len]; exact h0
  have := movedI_at h0 h'
  rw [atB_val h0] at h
  rw [if_pos h] at this
  rw [← this]
  simp [valI, h']
theorem mov_dead {l : List Bool} {p : Nat} (h0 : p < l.length) (h : atB l p = false) : valI (movedI l) p = -1 := by
  have h' : p < (movedI l).length := by rw [movedI_len]; exact h0
  have := movedI_at h0 h'
  rw [atB_val h0] at h
  rw [if_neg (by rw [h]; simp)] at this
  rw [← this]
  simp [valI, h']
theorem mov_ge {l : List Bool} {p : Nat} (h0 : p < l.length) : 0 ≤ valI (movedI l) p ↔ atB l p = true := by
  cases h : atB l p with
  | true => rw [mov_live h]; simp
  | false => rw [mov_dead h0 h]; simp
theorem cntB_mono {l : List Bool} {p q : Nat} (h : p ≤ q) : cntB (l.take p) ≤ cntB (l.take q) := by
  obtain ⟨d, rfl⟩ := Nat.le.dest h
  rw [List.take_add, cntB_app]
  omega
theorem cntB_live {l : List Bool} {p : Nat} (h : atB l p = true) : cntB (l.take (p + 1)) = cntB (l.take p) + 1 := by
  have h0 := atB_lt h
  rw [cntB_succ h0, if_pos (by rw [← atB_val h0]; exact h)]
theorem cntB_lt {l : List Bool} {p q : Nat} (hp : atB l p = true) (h : p < q) : cntB (l.take p) < cntB (l.take q) := by
  have h1 := cntB_live hp
  have h2 := cntB_mono (l := l) (show p + 1 ≤ q from h)
  omega
theorem cnt_run {l : List Bool} {p : Nat} : ∀ i : Nat, (∀ j, j < i → atB l ((p + j : Nat) : Int) = true) → cntB (l.take (p + i)) = cntB (l.take p) + i
  | 0, _ => rfl
  | i + 1, h => by
    rw [← Nat.add_assoc, cntB_live (h i (by omega)), cnt_run i fun j hj => h j (by omega)]
    omega
theorem some_cons (t : Int) (l : List Int) : someI (t :: l) = if 0 ≤ t then t :: someI l else someI l := by
  unfold someI
  by_cases h : 0 ≤ t <;> simp [List.filter, h]
theorem some_app (a b : List Int) : someI (a ++ b) = someI a ++ someI b := by simp [someI]
theorem cellsC_get (to : List Int) : ∀ (ts : List Int) (cs : List Cell) (p : Nat) (t : Int) (s : Cell), ts[p]? = some t → 0 ≤ t → cs[p]? = some s → (cellsC to ts cs)[(someI (ts.take p)).length]? = some (slotM to s)
  | [], _, p, t, s, h, _, _ => by simp at h
  | _ :: _, [], p, t, s, _, _, h => by simp at h
  | t0 :: ts, c0 :: cs, 0, t, s, h1, h2, h3 => by
    obtain rfl : t0 = t := by simpa using h1
    obtain rfl : c0 = s := by simpa using h3
    rw [cellsC, if_pos h2]
    rfl
  | t0 :: ts, c0 :: cs, p + 1, t, s, h1, h2, h3 => by
    have ih := cellsC_get to ts cs p t s (by simpa using h1) h2 (by simpa using h3)
    rw [List.take_succ_cons, some_cons, cellsC]
    by_cases h : 0 ≤ t0
    · rw [if_pos h, if_pos h, List.length_cons, List.getElem?_cons_succ]
      exact ih
    · rw [if_neg h, if_neg h]
      exact ih
theorem cellsC_sur (to : List Int) : ∀ (ts : List Int) (cs : List Cell) (k : Nat), k < (cellsC to ts cs).length → ∃ (p : Nat) (t : Int), ts[p]? = some t ∧ 0 ≤ t ∧ (someI (ts.take p)).length = k
  | [], _, k, h => by simp [cellsC] at h
  | _ :: _, [], k, h => by simp [cellsC] at h
  | t0 :: ts, c0 :: cs, k, h => by
    rw [cellsC] at h
    by_cases h0 : 0 ≤ t0
    · rw [if_pos h0] at h
      cases k with
      | zero => exact ⟨0, t0, rfl, h0, rfl⟩
      | succ k =>
        obtain ⟨p, t, h1, h2, h3⟩ := cellsC_sur to ts cs k (by simpa using h)
        exact ⟨p + 1, t, by simpa using h1, h2, by rw [List.take_succ_cons, some_cons, if_pos h0, List.length_cons, h3]⟩
    · rw [if_neg h0] at h
      obtain ⟨p, t, h1, h2, h3⟩ := cellsC_sur to ts cs k h
      exact ⟨p + 1, t, by simpa using h1, h2, by rw [List.take_succ_cons, some_cons, if_neg h0, h3]⟩
theorem some_mov : ∀ (l : List Bool) (c : Int), 0 ≤ c → (someI (movI c l)).length = cntB l
  | [], _, _ => rfl
  | b :: l, c, h => by
    rw [movI, cntB_cons]
    by_cases hb : b = true
    · rw [if_pos hb, if_pos hb, some_cons, if_pos h, List.length_cons, some_mov l (c + 1) (by omega)]
    · rw [if_neg hb, if_neg hb, some_cons, if_neg (by omega), some_mov l c h]
      rfl
theorem some_moved (l : List Bool) (p : Nat) : (someI ((movedI l).take p)).length = cntB (l.take p) := by
  rw [movedI_take]
  exact some_mov _ 0 (Int.le_refl _)
/-! ### The heap behind a collection -/
def Lv (cs : List Cell) (roots : List Int) (p : Nat) : Prop := atB (liveB cs roots) p = true
section
variable {cs : List Cell} {roots : List Int}
theorem Lv.lt {p : Nat} (h : Lv cs roots p) : p < cs.length := by
  have := atB_lt h
  rw [liveB_len] at this
  exact this
theorem Lv.closed (hs : ShOk cs) {p q : Nat} (h : Lv cs roots p) (hq : (q : Int) ∈ leadsI cs (p : Int)) : Lv cs roots q := by
  have hr := leads_range hs h.lt hq
  obtain ⟨r, h1, h2, h3⟩ := (liveB_iff hs h.lt).1 h
  exact (liveB_iff hs (by omega)).2 ⟨r, h1, h2, .step h3 hq⟩
theorem Lv.root (hs : ShOk cs) {p : Nat} (hp : p < cs.length) (h : (p : Int) ∈ roots) : Lv cs roots p := (liveB_iff hs hp).2 ⟨_, h, by omega, .refl _⟩
/-- Where slots stand behind a collection. -/
def toC (cs : List Cell) (roots : List Int) : List Int := movedI (liveB cs roots)
theorem toC_len : (toC cs roots).length = cs.length := by unfold toC; rw [movedI_len, liveB_len]
theorem toC_live {p : Nat} (h : Lv cs roots p) : valI (toC cs roots) p = cntB ((liveB cs roots).take p) := mov_live h
theorem toC_ge {p : Nat} (hp : p < cs.length) : 0 ≤ valI (toC cs roots) p ↔ Lv cs roots p := mov_ge (by rw [liveB_len]; exact hp)
theorem rn_col (hs : ShOk cs) (roots : List Int) : Rn cs (cellsM (toC cs roots) cs) (toC cs roots) (Lv cs roots) := by
  refine ⟨fun p hp => ⟨hp.lt, by rw [toC_len]; exact hp.lt⟩, fun p hp q hq => hp.closed hs hq, fun p hp => ?_, fun p q hp hq h => ?_, fun p s hp he hk i hi => ?_⟩
  · refine ⟨_, _, toC_live hp, List.getElem?_eq_getElem hp.lt, ?_⟩
    have hl : p < (toC cs roots).length := by rw [toC_len]; exact hp.lt
    have hv : valI (toC cs roots) p = (toC cs roots)[p] := by simp [valI, hl]
    have := cellsC_get (toC cs roots) (toC cs roots) cs p _ _ (List.getElem?_eq_getElem hl) (by rw [← hv, toC_live hp]; omega) (List.getElem?_eq_getElem hp.lt)
    rw [show (someI ((toC cs roots).take p)).length = cntB ((liveB cs roots).take p) from some_moved _ p] at this
    exact this
  · rw [toC_live hp, toC_live hq]
    have := cntB_lt hp h
    omega
  · obtain ⟨hl, rfl⟩ := List.getElem?_eq_some_iff.1 he
    have hlead : ∀ j : Nat, (j : Int) < cs[p].n → Lv cs roots (p + 1 + j) := fun j hj => hp.closed hs (by
      rw [leadsI_at hl, if_neg (by omega), if_pos hk]
      exact List.mem_map.2 ⟨j, List.mem_range.2 (by omega), by omega⟩)
    have hrun := cnt_run (l := liveB cs roots) (p := p) (i + 1) fun j hj => by
      cases j with
      | zero => exact hp
      | succ j =>
        have := hlead j (by omega)
        rw [show p + (j + 1) = p + 1 + j from by omega]
        exact this
    rw [show ((p : Int) + 1 + i) = ((p + 1 + i : Nat) : Int) from by omega, toC_live (hlead i hi), toC_live hp, show p + 1 + i = p + (i + 1) from by omega, hrun]
    omega
theorem sur_col (roots : List Int) : ∀ q : Nat, q < (cellsM (toC cs roots) cs).length → ∃ p, Lv cs roots p ∧ valI (toC cs roots) p = q := fun q hq => by
  obtain ⟨p, t, h1, h2, h3⟩ := cellsC_sur (toC cs roots) (toC cs roots) cs q hq
  obtain ⟨hl, h4⟩ := List.getElem?_eq_some_iff.1 h1
  have hv : valI (toC cs roots) p = t := by rw [← h4]; simp [valI, hl]
  rw [toC_len] at hl
  have hL : Lv cs roots p := (toC_ge hl).1 (by omega)
  refine ⟨p, hL, ?_⟩
  rw [toC_live hL]
  rw [show (someI ((toC cs roots).take p)).length = cntB ((liveB cs roots).take p) from some_moved _ p] at h3
  omega
theorem len_col : (cellsM (toC cs roots) cs).length = cntB (liveB cs roots) := by
  unfold cellsM
  rw [cellsC_len _ _ _ toC_len]
  have := some_moved (liveB cs roots) cs.length
  rw [List.take_of_length_le (show (movedI (liveB cs roots)).length ≤ cs.length by rw [movedI_len, liveB_len]; exact Nat.le_refl _), List.take_of_length_le (show (liveB cs roots).length ≤ cs.length by rw [liveB_len]; exact Nat.le_refl _)] at this
  exact this
theorem len_col_le : (cellsM (toC cs roots) cs).length ≤ cs.length := by
  rw [len_col]
  have := cntB_le (liveB cs roots)
  rw [liveB_len] at this
  exact this
theorem trail_mem {tr : List Int} {x : Int} (hr : ∀ y ∈ tr, 0 ≤ y ∧ y < cs.length) (h : x ∈ trailM (toC cs roots) tr) : ∃ p : Nat, Lv cs roots p ∧ (p : Int) ∈ tr ∧ x = valI (toC cs roots) p := by
  obtain ⟨h1, h2⟩ := List.mem_filter.1 h
  obtain ⟨y, hy, rfl⟩ := List.mem_map.1 h1
  have hyr := hr y hy
  obtain ⟨p, rfl⟩ := Int.eq_ofNat_of_zero_le hyr.1
  rw [if_pos ⟨by omega, by rw [toC_len]; omega⟩] at h2 ⊢
  exact ⟨p, (toC_ge (by omega)).1 (by simpa using h2), hy, rfl⟩
theorem trail_mem' {tr : List Int} {p : Nat} (hp : Lv cs roots p) (h : (p : Int) ∈ tr) : valI (toC cs roots) p ∈ trailM (toC cs roots) tr := by
  refine List.mem_filter.2 ⟨List.mem_map.2 ⟨p, h, ?_⟩, ?_⟩
  · rw [if_pos ⟨by omega, by rw [toC_len]; have := hp.lt; omega⟩]
  · simpa using (toC_ge hp.lt).2 hp
theorem trail_nodup (hs : ShOk cs) {tr : List Int} (hr : ∀ y ∈ tr, 0 ≤ y ∧ y < cs.length) (hn : tr.Nodup) : (trailM (toC cs roots) tr).Nodup := by
  unfold trailM someI toI
  rw [List.filter_map]
  refine List.pairwise_map.2 (List.Pairwise.imp_of_mem (fun {a b} ha hb hab he => hab ?_) (List.Pairwise.filter _ hn))
  obtain ⟨ha1, ha2⟩ := List.mem_filter.1 ha
  obtain ⟨hb1, hb2⟩ := List.mem_filter.1 hb
  have har := hr a ha1
  have hbr := hr b hb1
  obtain ⟨p, rfl⟩ := Int.eq_ofNat_of_zero_le har.1
  obtain ⟨q, rfl⟩ := Int.eq_ofNat_of_zero_le hbr.1
  simp only [Function.comp, decide_eq_true_eq] at ha2 hb2
  rw [if_pos ⟨by omega, by rw [toC_len]; omega⟩] at ha2 hb2 he
  rw [if_pos ⟨by omega, by rw [toC_len]; omega⟩] at he
  have := (rn_col hs roots).inj ((toC_ge (by omega)).1 ha2) ((toC_ge (by omega)).1 hb2) he
  omega
theorem hp_col {tr : List Int} (h : HpOk cs tr) (roots : List Int) : HpOk (cellsM (toC cs roots) cs) (trailM (toC cs roots) tr) :=
  (rn_col h.slots.ok roots).hp h (sur_col roots) (fun x hx => trail_mem h.range hx) (trail_nodup h.slots.ok h.range h.nodup)
/-! ### What is undone -/
theorem trail_app (to a b : List Int) : trailM to (a ++ b) = trailM to a ++ trailM to b := by
  unfold trailM toI
  rw [List.map_append, some_app]
theorem trail_take (to tr : List Int) (t : Nat) : (trailM to tr).take (trailM to (tr.take t)).length = trailM to (tr.take t) := by
  conv => lhs; rw [show tr = tr.take t ++ tr.drop t from (List.take_append_drop t tr).symm, trail_app]
  rw [List.take_append_drop]
  exact List.take_left
theorem trail_drop (to tr : List Int) (t : Nat) : (trailM to tr).drop (trailM to (tr.take t)).length = trailM to (tr.drop t) := by
  conv => lhs; rw [show tr = tr.take t ++ tr.drop t from (List.take_append_drop t tr).symm, trail_app]
  rw [List.take_append_drop]
  exact List.drop_left
theorem undo_len {cs : List Cell} {tr : List Int} {a t : Nat} (ha : a ≤ cs.length) : (undoC cs tr a t).length = a := by
  unfold undoC
  rw [List.length_take, freeC_len]
  omega
theorem undo_undo {cs : List Cell} {tr : List Int} (hr : ∀ x ∈ tr, 0 ≤ x ∧ x < cs.length) {a b t u : Nat} (hab : a ≤ b) (hb : b ≤ cs.length) (htu : t ≤ u) (hu : u ≤ tr.length) : undoC (undoC cs tr b u) (tr.take u) a t = undoC cs tr a t := by
  apply List.ext_getElem?
  intro p
  have h0 : ∀ x ∈ tr, 0 ≤ x := fun x hx => (hr x hx).1
  rw [undo_get (fun x hx => h0 x (List.mem_of_mem_take hx)), undo_get h0, undo_get h0, undo_len hb]
  by_cases hp : p < a
  · rw [if_pos hp, if_pos hp, if_pos (show p < b by omega), if_pos (show p < b by omega), if_pos (show p < cs.length by omega)]
    have hd : tr.drop t = (tr.take u).drop t ++ tr.drop u := by
      conv => lhs; rw [show tr = tr.take u ++ tr.drop u from (List.take_append_drop u tr).symm]
      rw [List.drop_append_of_le_length (by simp; omega)]
    by_cases h1 : (p : Int) ∈ (tr.take u).drop t
    · rw [if_pos h1, if_pos (by rw [hd]; exact List.mem_append.2 (.inl h1))]
    · rw [if_neg h1]
      by_cases h2 : (p : Int) ∈ tr.drop u
      · rw [if_pos h2, if_pos (by rw [hd]; exact List.mem_append.2 (.inr h2))]
      · rw [if_neg h2, if_neg (by rw [hd]; exact fun hh => (List.mem_append.1 hh).elim h1 h2)]
  · rw [if_neg hp, if_neg hp]
theorem undo_all {cs : List Cell} {tr : List Int} : undoC cs tr cs.length tr.length = cs := by unfold undoC; simp [freeC]
def cellsA (cs : List Cell) (roots : List Int) (a : Nat) : Nat := (someI ((toC cs roots).take a)).length
theorem cellsA_eq (a : Nat) : cellsA cs roots a = cntB ((liveB cs roots).take a) := some_moved _ a
theorem cellsA_le (a : Nat) : cellsA cs roots a ≤ (cellsM (toC cs roots) cs).length := by
  rw [cellsA_eq, len_col]
  have := cntB_mono (l := liveB cs roots) (show min a cs.length ≤ cs.length by omega)
  rw [List.take_of_length_le (show (liveB cs roots).length ≤ cs.length by rw [liveB_len]; exact Nat.le_refl _)] at this
  have h2 : (liveB cs roots).take a = (liveB cs roots).take (min a cs.length) := by
    by_cases h : a ≤ cs.length
    · rw [Nat.min_eq_left h]
    · rw [Nat.min_eq_right (by omega), List.take_of_length_le (by rw [liveB_len]; omega), List.take_of_length_le (by rw [liveB_len]; exact Nat.le_refl _)]
  rw [h2]
  exact this
theorem rn_undo {tr : List Int} (h : HpOk cs tr) (roots : List Int) {a t : Nat} (ha : a ≤ cs.length) (ht : t ≤ tr.length) (hg : HpOk (undoC cs tr a t) (tr.take t)) :
    Rn (undoC cs tr a t) (undoC (cellsM (toC cs roots) cs) (trailM (toC cs roots) tr) (cellsA cs roots a) (trailM (toC cs roots) (tr.take t)).length) (toC cs roots) (fun p => Lv cs roots p ∧ p < a) := by
  have hs := h.slots.ok
  have hcol := rn_col hs roots
  have h0 : ∀ x ∈ tr, 0 ≤ x := fun x hx => (h.range x hx).1
  have h02 : ∀ x ∈ trailM (toC cs roots) tr, 0 ≤ x := fun x hx => by simpa using (List.mem_filter.1 hx).2
  have hget : ∀ p : Nat, p < a → (undoC cs tr a t)[p]? = if (p : Int) ∈ tr.drop t then some (refC p) else cs[p]? := fun p hp => by
    rw [undo_get h0, if_pos hp, if_pos (show p < cs.length by omega)]
  have hgl := undo_len (cs := cs) (tr := tr) (t := t) ha
  refine ⟨fun p hp => ⟨by rw [hgl]; exact hp.2, by rw [toC_len]; exact hp.1.lt⟩, fun p hp q hq => ?_, fun p hp => ?_, fun p q hp hq hlt => hcol.mono p q hp.1 hq.1 hlt, fun p s hp he hk i hi => ?_⟩
  · have hqr := leads_range hg.slots.ok (p := p) (by rw [hgl]; exact hp.2) hq
    rw [hgl] at hqr
    have hgp := hget p hp.2
    split at hgp
    · exfalso
      unfold leadsI at hq
      rw [show ((p : Nat) : Int).toNat = p from rfl, hgp] at hq
      simp [refC] at hq
    · rw [leadsI_congr (show (undoC cs tr a t)[((p : Nat) : Int).toNat]? = cs[((p : Nat) : Int).toNat]? from hgp)] at hq
      exact ⟨hp.1.closed hs hq, by omega⟩
  · obtain ⟨q, s, h1, h2, h3⟩ := hcol.slot p hp.1
    have hqa : q < cellsA cs roots a := by
      have := cntB_lt hp.1 hp.2
      rw [toC_live hp.1] at h1
      rw [cellsA_eq]
      omega
    have hql := (List.getElem?_eq_some_iff.1 h3).1
    have hgq := undo_get (cs := cellsM (toC cs roots) cs) h02 (cellsA cs roots a) (trailM (toC cs roots) (tr.take t)).length q
    rw [if_pos hqa, if_pos hql, trail_drop] at hgq
    by_cases hm : (p : Int) ∈ tr.drop t
    · refine ⟨q, refC p, h1, by rw [hget p hp.2, if_pos hm], ?_⟩
      rw [hgq]
      have := trail_mem' hp.1 hm
      rw [h1] at this
      rw [if_pos this]
      unfold slotM refC
      simp [h1]
    · refine ⟨q, s, h1, by rw [hget p hp.2, if_neg hm]; exact h2, ?_⟩
      have : (q : Int) ∉ trailM (toC cs roots) (tr.drop t) := fun hh => by
        obtain ⟨p', hp', hpt, he⟩ := trail_mem (fun y hy => h.range y (List.mem_of_mem_drop hy)) hh
        have := hcol.inj hp.1 hp' (by rw [h1, he])
        subst this
        exact hm hpt
      rw [hgq, if_neg this]
      exact h3
  · have hgp := hget p hp.2
    rw [he] at hgp
    split at hgp
    · have : s = refC p := by simpa using hgp
      subst this
      cases hk
    · exact hcol.top p s hp.1 hgp.symm hk i hi
theorem hp_undo {tr : List Int} (h : HpOk cs tr) (roots : List Int) {a t : Nat} (ha : a ≤ cs.length) (ht : t ≤ tr.length) (hg : HpOk (undoC cs tr a t) (tr.take t)) :
    HpOk (undoC (cellsM (toC cs roots) cs) (trailM (toC cs roots) tr) (cellsA cs roots a) (trailM (toC cs roots) (tr.take t)).length) (trailM (toC cs roots) (tr.take t)) := by
  have hr : ∀ y ∈ tr.take t, 0 ≤ y ∧ y < cs.length := fun y hy => h.range y (List.mem_of_mem_take hy)
  refine (rn_undo h roots ha ht hg).hp hg (fun q hq => ?_) (fun x hx => ?_) (trail_nodup h.slots.ok hr (h.nodup.sublist (List.take_sublist _ _)))
  · have hl := undo_len (cs := cellsM (toC cs roots) cs) (tr := trailM (toC cs roots) tr) (t := (trailM (toC cs roots) (tr.take t)).length) (cellsA_le (cs := cs) (roots := roots) a)
    rw [hl] at hq
    obtain ⟨p, hp, he⟩ := sur_col roots q (Nat.lt_of_lt_of_le hq (cellsA_le a))
    refine ⟨p, ⟨hp, ?_⟩, he⟩
    rcases Nat.lt_or_ge p a with hlt | hge
    · exact hlt
    · exfalso
      have := cntB_mono (l := liveB cs roots) hge
      rw [toC_live hp] at he
      rw [cellsA_eq] at hq
      omega
  · obtain ⟨p, hp, hpt, he⟩ := trail_mem hr hx
    have := hg.range _ hpt
    rw [undo_len ha] at this
    exact ⟨p, ⟨hp, by omega⟩, hpt, he⟩
end
end Go.Proofs.Ytnmkffkalnkbbaa.Pl
