/-
  Plain words: a collection that changes nothing, and one behind another; roots that have the same terms behind one. No program of Go stands here.
  No condition but the premises of each theorem.
-/
import Derived.Test.YtnmkffkalnkbbaaPhl
namespace Go.Proofs.Ytnmkffkalnkbbaa.Pl
set_option linter.unusedVariables false
set_option linter.unusedSimpArgs false
theorem cntB_rep (p n : Nat) (b : Bool) (h : p ≤ n) : cntB ((List.replicate n b).take p) = if b = true then p else 0 := by
  rw [List.take_replicate, Nat.min_eq_left h]
  unfold cntB
  rw [List.countP_replicate]
  rfl
section
variable {cs : List Cell} {tr l : List Int}
theorem live_all (h : ∀ p : Nat, p < cs.length → atB (liveB cs l) p = true) : liveB cs l = List.replicate cs.length true :=
  ext_at (by rw [liveB_len, List.length_replicate]) fun a ha => by
    rw [liveB_len] at ha
    rw [h a ha, atB_nat]
    simp [ha]
theorem val_id (hl : liveB cs l = List.replicate cs.length true) {x : Int} (h0 : 0 ≤ x) (h1 : x < cs.length) : valI (toC cs l) x = x := by
  obtain ⟨p, rfl⟩ := Int.eq_ofNat_of_zero_le h0
  have hp : Lv cs l p := by
    unfold Lv
    rw [hl, atB_nat]
    simp [show p < cs.length by omega]
  rw [toC_live hp, hl, cntB_rep p _ true (by omega)]
  rfl
theorem to_id (hl : liveB cs l = List.replicate cs.length true) {xs : List Int} (hx : ∀ x ∈ xs, x = -1 ∨ (0 ≤ x ∧ x < cs.length)) : toI (toC cs l) xs = xs := by
  unfold toI
  conv => rhs; rw [← List.map_id xs]
  refine List.map_congr_left fun x h => ?_
  rcases hx x h with rfl | h2
  · rfl
  · rw [if_pos ⟨h2.1, by rw [toC_len]; exact h2.2⟩, val_id hl h2.1 h2.2]
    rfl
theorem trail_id (hl : liveB cs l = List.replicate cs.length true) (hr : ∀ x ∈ tr, 0 ≤ x ∧ x < cs.length) : trailM (toC cs l) tr = tr := by
  unfold trailM
  rw [to_id hl (fun x hx => .inr (hr x hx))]
  exact List.filter_eq_self.2 fun x hx => by simpa using (hr x hx).1
theorem col_id (hs : ShOk cs) (hl : liveB cs l = List.replicate cs.length true) : cellsM (toC cs l) cs = cs := by
  have hlen : (cellsM (toC cs l) cs).length = cs.length := by
    have := cntB_rep cs.length cs.length true (Nat.le_refl _)
    rw [List.take_of_length_le (by simp)] at this
    rw [len_col, hl, this]
    rfl
  refine List.ext_getElem hlen fun p h1 h2 => ?_
  have hp : Lv cs l p := by
    unfold Lv
    rw [hl, atB_nat]
    simp [h2]
  obtain ⟨q, _, hq, he, hc⟩ := (rn_col hs l).at_ hp
  rw [val_id hl (by omega) (by omega)] at he
  have : q = p := by omega
  subst this
  rw [hc]
  by_cases hk : cs[q].kind = 1 ∨ cs[q].kind = 3
  · have ho := hs q h2
    unfold SlotOk at ho
    unfold slotM
    rw [if_pos hk, val_id hl (by omega) (by omega)]
  · exact slotM_n' hk
theorem mark_id (hl : liveB cs l = List.replicate cs.length true) (hr : ∀ x ∈ tr, 0 ≤ x ∧ x < cs.length) {m : Mk} (hm : MkOk cs.length tr.length m) (hx : ∀ x ∈ m.roots, x = -1 ∨ (0 ≤ x ∧ x < cs.length)) : markM (toC cs l) tr m = m := by
  obtain ⟨⟨h1, h2⟩, h3, h4⟩ := hm
  have e1 : ((someI ((toC cs l).take m.cells.toNat)).length : Int) = m.cells := by
    rw [show (someI ((toC cs l).take m.cells.toNat)).length = cntB ((liveB cs l).take m.cells.toNat) from some_moved _ _, hl, cntB_rep _ _ true (by omega)]
    simp
    omega
  have e2 : ((someI (toI (toC cs l) (tr.take m.trail.toNat))).length : Int) = m.trail := by
    have := trail_id hl (tr := tr.take m.trail.toNat) (fun x hx => hr x (List.mem_of_mem_take hx))
    unfold trailM at this
    rw [this]
    simp
    omega
  unfold markM
  rw [e1, e2, to_id hl hx]
theorem toI_mem {roots : List Int} {k : Nat} (hk : Lv cs roots k) {xs : List Int} (h : (k : Int) ∈ xs) : valI (toC cs roots) k ∈ toI (toC cs roots) xs :=
  List.mem_map.2 ⟨k, h, by rw [if_pos ⟨by omega, by rw [toC_len]; have := hk.lt; omega⟩]⟩
theorem toI_vals {roots : List Int} {xs : List Int} {x : Int} (hx : x ∈ toI (toC cs roots) xs) : x = -1 ∨ (0 ≤ x ∧ x < (cellsM (toC cs roots) cs).length) := by
  obtain ⟨y, hy, rfl⟩ := List.mem_map.1 hx
  split
  · rename_i h
    rw [toC_len] at h
    obtain ⟨p, rfl⟩ := Int.eq_ofNat_of_zero_le h.1
    cases hl : atB (liveB cs roots) p with
    | true =>
      right
      have hL : Lv cs roots p := hl
      rw [toC_live hL, len_col]
      have h1 := cntB_lt hl (show p < cs.length by omega)
      rw [List.take_of_length_le (show (liveB cs roots).length ≤ cs.length by rw [liveB_len]; exact Nat.le_refl _)] at h1
      omega
    | false => exact .inl (mov_dead (by rw [liveB_len]; omega) hl)
  · exact .inl rfl
theorem live_again (h : HpOk cs tr) (roots : List Int) (ms : List Mk) : liveB (cellsM (toC cs (allI roots ms)) cs) (allI (toI (toC cs (allI roots ms)) roots) (ms.map (markM (toC cs (allI roots ms)) tr))) = List.replicate (cellsM (toC cs (allI roots ms)) cs).length true := by
  refine live_all fun q hq => ?_
  have hs := h.slots.ok
  have hcol := rn_col hs (allI roots ms)
  obtain ⟨p, hp, he⟩ := sur_col (allI roots ms) q hq
  obtain ⟨r, hr, hrv, hrc⟩ := (liveB_iff hs hp.lt).1 hp
  obtain ⟨k, rfl⟩ := Int.eq_ofNat_of_zero_le hrv.1
  have hk : Lv cs (allI roots ms) k := Lv.root hs (by omega) hr
  obtain ⟨h1, _⟩ := hcol.rc hs hk hrc
  rw [he] at h1
  refine (liveB_iff (hp_col h (allI roots ms)).slots.ok hq).2 ⟨_, allI_mem.2 ?_, hcol.range2 hk, h1⟩
  rcases allI_mem.1 hr with hr | ⟨m, hm, hr⟩
  · exact .inl (toI_mem hk hr)
  · exact .inr ⟨_, List.mem_map_of_mem hm, toI_mem hk hr⟩
theorem mark_ok (roots : List Int) (m : Mk) : MkOk (cellsM (toC cs roots) cs).length (trailM (toC cs roots) tr).length (markM (toC cs roots) tr m) := by
  refine ⟨⟨by simp only [markM]; omega, ?_⟩, by simp only [markM]; omega, ?_⟩
  · have := cellsA_le (cs := cs) (roots := roots) m.cells.toNat
    unfold cellsA at this
    simp only [markM]
    omega
  · have h1 := congrArg List.length (trail_take (toC cs roots) tr m.trail.toNat)
    rw [List.length_take] at h1
    simp only [markM]
    unfold trailM at h1 ⊢
    omega
/-! ### Roots behind a collection -/
def AlikeQ (cs : List Cell) (roots : List Int) (cs2 : List Cell) (moved to : List Int) : Prop := roots.length = moved.length ∧ ∀ (i : Nat) (h : i < roots.length) (h' : i < moved.length), getT cs2 moved[i] = (getT cs roots[i]).map (fun t => t.map (movT to))
theorem getT_out {cs : List Cell} : getT cs (-1) = none := by
  unfold getT
  rw [if_neg (by simp [isP])]
theorem Rn.alike {cs2 : List Cell} {to : List Int} {L : Nat → Prop} (h : Rn cs cs2 to L) (hs : SlR cs) (hr : Rk cs) (hs2 : SlR cs2) (hr2 : Rk cs2) (hn : cs.length ≤ 1000) (hle : cs2.length ≤ cs.length) {roots : List Int} (hx : ∀ x ∈ roots, x = -1 ∨ ∃ p : Nat, x = p ∧ L p) : AlikeQ cs roots cs2 (toI to roots) to := by
  refine ⟨(toI_len _ _).symm, fun i h1 h2 => ?_⟩
  have e : (toI to roots)[i] = if 0 ≤ roots[i] ∧ roots[i] < to.length then valI to roots[i] else -1 := by simp [toI]
  rw [e]
  rcases hx _ (List.getElem_mem h1) with h3 | ⟨p, h3, hL⟩
  · rw [h3, if_neg (by omega), getT_out, getT_out]
    rfl
  · have := h.lt p hL
    rw [h3, if_pos (by omega)]
    exact h.getT hs hr hs2 hr2 hn hle hL
end
end Go.Proofs.Ytnmkffkalnkbbaa.Pl
