/-
  Plain words: two places that are made alike, in a heap and in one where its slots stand elsewhere. No program of Go stands here.
  No condition but the premises of each theorem.
-/
import Derived.Test.YtnmkffkalnkbbaaPhm
namespace Go.Proofs.Ytnmkffkalnkbbaa.Pl
set_option linter.unusedVariables false
set_option linter.unusedSimpArgs false
def pT (to : List Int) (p : Int × Int) : Int × Int := (valI to p.1, valI to p.2)
def InL (L : Nat → Prop) (l : List (Int × Int)) : Prop := ∀ p ∈ l, (∃ i : Nat, p.1 = i ∧ L i) ∧ ∃ j : Nat, p.2 = j ∧ L j
def SimR (to : List Int) (L : Nat → Prop) (r r2 : Option (List Cell × List Int)) : Prop := (r = none ∧ r2 = none) ∨ ∃ c t c2 t2, r = some (c, t) ∧ r2 = some (c2, t2) ∧ Rn c c2 to L
theorem bind_get {cs : List Cell} {x : Nat} {y : Int} (hx : x < cs.length) (p : Nat) : (bindC cs (x : Int) y)[p]? = if p = x then some (refC y) else cs[p]? := by
  unfold bindC
  rw [List.getElem?_set]
  by_cases h : p = x
  · rw [if_pos (show ((x : Nat) : Int).toNat = p by omega), if_pos h, if_pos (by omega)]
  · rw [if_neg (show ¬ ((x : Nat) : Int).toNat = p by omega), if_neg h]
section
variable {cs cs2 : List Cell} {to : List Int} {L : Nat → Prop}
theorem Rn.bind (h : Rn cs cs2 to L) {x y : Nat} (hx : L x) (hy : L y) : Rn (bindC cs x y) (bindC cs2 (valI to x) (valI to y)) to L := by
  have hxl := (h.lt x hx).1
  obtain ⟨qx, _, hqx, hex, _⟩ := h.at_ hx
  obtain ⟨qy, _, hqy, hey, _⟩ := h.at_ hy
  rw [hex, hey]
  refine ⟨fun p hp => by rw [bindC_len]; exact h.lt p hp, fun p hp q hq => ?_, fun p hp => ?_, h.mono, fun p s hp he hk i hi => ?_⟩
  · rw [leads_bind (by omega) (h.lt p hp).1] at hq
    split at hq
    · split at hq
      · have : q = y := by
          have h2 : (q : Int) = (y : Int) := by simpa using hq
          omega
        rw [this]
        exact hy
      · cases hq
    · exact h.closed p hp q hq
  · obtain ⟨q, s, h1, h2, h3⟩ := h.slot p hp
    by_cases hpx : p = x
    · subst hpx
      have : q = qx := by omega
      subst this
      refine ⟨q, refC y, h1, by rw [bind_get hxl, if_pos rfl], ?_⟩
      rw [bind_get hqx, if_pos rfl]
      unfold slotM refC
      simp [hey]
    · have hne : q ≠ qx := fun e => hpx (h.inj hp hx (by omega))
      exact ⟨q, s, h1, by rw [bind_get hxl, if_neg hpx]; exact h2, by rw [bind_get hqx, if_neg hne]; exact h3⟩
  · rw [bind_get hxl] at he
    split at he
    · have : s = refC y := by simpa using he.symm
      subst this
      cases hk
    · exact h.top p s hp he hk i hi
theorem Rn.rc_iff (h : Rn cs cs2 to L) (hs : ShOk cs) {p q : Nat} (hp : L p) (hq : L q) : Rc cs2 (valI to p) (valI to q) ↔ Rc cs p q := by
  constructor
  · intro hh
    obtain ⟨k, hk, he, hc⟩ := h.rc' hs hp hh
    have := h.inj hq hk he
    subst this
    exact hc
  · intro hh
    exact (h.rc hs hp hh).1
theorem Rn.reach (h : Rn cs cs2 to L) (hs : ShOk cs) (hs2 : ShOk cs2) {p q : Nat} (hp : L p) (hq : L q) : atB (liveB cs2 [valI to p]) (valI to q) = atB (liveB cs [(p : Int)]) q := by
  obtain ⟨i, _, hi, hei, _⟩ := h.at_ hp
  obtain ⟨j, _, hj, hej, _⟩ := h.at_ hq
  have hrc := h.rc_iff hs hp hq
  have hpl := (h.lt p hp).1
  refine bool_iff ?_
  rw [hej, liveB_iff hs2 hj, liveB_iff hs (h.lt q hq).1]
  constructor
  · rintro ⟨r, hr, _, hc⟩
    obtain rfl : r = valI to p := by simpa using hr
    exact ⟨p, by simp, by omega, hrc.1 (by rw [hej]; exact hc)⟩
  · rintro ⟨r, hr, _, hc⟩
    obtain rfl : r = (p : Int) := by simpa using hr
    exact ⟨valI to p, by simp, by omega, by rw [← hej]; exact hrc.2 hc⟩
theorem Rn.cellAt (h : Rn cs cs2 to L) {p : Nat} (hp : L p) : Pl.cellAt cs2 (valI to p) = slotM to (Pl.cellAt cs p) := by
  obtain ⟨i, hl, hi, hei, hc⟩ := h.at_ hp
  rw [hei, cellAt_at hi, cellAt_at hl, hc]
end
theorem unif_sim {to : List Int} {L : Nat → Prop} {N N2 : Nat} : ∀ (n : Nat) (cs cs2 : List Cell) (tr tr2 : List Int) (row seen : List (Int × Int)), Rn cs cs2 to L → UI N n cs row seen → UI N2 n cs2 (row.map (pT to)) (seen.map (pT to)) → InL L row → InL L seen → SimR to L (unif n cs tr row seen) (unif n cs2 tr2 (row.map (pT to)) (seen.map (pT to)))
  | n, cs, cs2, tr, tr2, [], seen, h, _, _, _, _ => by
    refine .inr ⟨cs, tr, cs2, tr2, ?_, ?_, h⟩
    · cases n <;> rw [unif]
    · rw [List.map_nil]
      cases n <;> rw [unif]
  | 0, cs, cs2, tr, tr2, p :: row, seen, h, hU, _, _, _ => by
    obtain ⟨m, hm⟩ := hU.pos
    omega
  | n + 1, cs, cs2, tr, tr2, (a, b) :: row, seen, h, hU, hU2, hr, hse => by
    obtain ⟨⟨i, hi, hLi⟩, j, hj, hLj⟩ := hr (a, b) (by simp)
    simp only at hi hj
    subst hi
    subst hj
    obtain ⟨f1, p, hp, hLp⟩ := h.follow hU.sh hU.rk hU2.sh hU2.rk hLi
    obtain ⟨f2, q, hq, hLq⟩ := h.follow hU.sh hU.rk hU2.sh hU2.rk hLj
    have hlen := hU.len
    have hlen2 := hU2.len
    have hpl := (h.lt p hLp).1
    have hql := (h.lt q hLq).1
    have hil := (h.lt i hLi).1
    have hjl := (h.lt j hLj).1
    obtain ⟨ma, hfa, _, _⟩ := hU.fol (a := (i : Int)) (by omega) (by omega)
    obtain ⟨mb, hfb, _, _⟩ := hU.fol (a := (j : Int)) (by omega) (by omega)
    rw [hp] at f1 hfa
    rw [hq] at f2 hfb
    obtain ⟨vp, _, hvp, ep, _⟩ := h.at_ hLp
    obtain ⟨vq, _, hvq, eq, _⟩ := h.at_ hLq
    have hr' : InL L row := fun x hx => hr x (by simp [hx])
    have hm : (valI to p, valI to q) ∈ seen.map (pT to) ↔ ((p : Int), (q : Int)) ∈ seen := by
      rw [List.mem_map]
      constructor
      · rintro ⟨x, hx, he⟩
        obtain ⟨⟨u, hu, hLu⟩, v, hv, hLv⟩ := hse x hx
        obtain ⟨x1, x2⟩ := x
        simp only at hu hv
        subst hu
        subst hv
        simp only [pT, Prod.mk.injEq] at he
        have e1 := h.inj hLu hLp he.1
        have e2 := h.inj hLv hLq he.2
        subst e1
        subst e2
        exact hx
      · intro hx
        exact ⟨_, hx, rfl⟩
    have he : valI to p = valI to q ↔ (p : Int) = q := ⟨fun e => by have := h.inj hLp hLq e; omega, fun e => by rw [e]⟩
    have k1 := h.kind hLp
    have k2 := h.kind hLq
    have c1i : (valI to p = valI to q ∨ (valI to p, valI to q) ∈ seen.map (pT to)) ↔ ((p : Int) = q ∨ ((p : Int), (q : Int)) ∈ seen) := by rw [he, hm]
    have c2i : (kindAt cs2 (valI to p) = 1 ∧ kindAt cs2 (valI to q) = 1) ↔ (kindAt cs (p : Int) = 1 ∧ kindAt cs (q : Int) = 1) := by rw [k1, k2]
    have hsk : UI N n cs row seen := hU.skip
    have hsk2 : UI N2 n cs2 (row.map (pT to)) (seen.map (pT to)) := UI.skip (p := pT to ((i : Int), (j : Int))) hU2
    rw [List.map_cons, show pT to ((i : Int), (j : Int)) = (valI to i, valI to j) from rfl, unif, unif, f1, f2, hp, hq]
    by_cases c1 : (p : Int) = q ∨ ((p : Int), (q : Int)) ∈ seen
    · rw [if_pos c1, if_pos (c1i.2 c1)]
      exact unif_sim n _ _ _ _ row seen h hsk hsk2 hr' hse
    · rw [if_neg c1, if_neg (mt c1i.1 c1)]
      have hpq : p ≠ q := fun e => c1 (.inl (by omega))
      have bnd : ∀ x y : Nat, L x → L y → x < N → y < N → ¬ Rc cs (y : Int) (x : Int) → SimR to L (unif n (bindC cs x y) (tr ++ [(x : Int)]) row seen) (unif n (bindC cs2 (valI to x) (valI to y)) (tr2 ++ [valI to x]) (row.map (pT to)) (seen.map (pT to))) := fun x y hx hy hxN hyN hn => by
        have r1 := h.range2 hx
        have r2 := h.range2 hy
        exact unif_sim n _ _ _ _ row seen (h.bind hx hy) (hsk.bind (by omega) (by omega) (by omega) (by omega) hn) (hsk2.bind r1.1 (by omega) r2.1 (by omega) (fun hh => hn ((h.rc_iff hU.sh hy hx).1 hh))) hr' hse
      have fp : kindAt cs (p : Int) = 1 → leadsI cs (p : Int) = [] := fun hk => (fol_free hfa.end_ (by omega) (by omega) hk).1
      have fq : kindAt cs (q : Int) = 1 → leadsI cs (q : Int) = [] := fun hk => (fol_free hfb.end_ (by omega) (by omega) hk).1
      by_cases c2 : kindAt cs (p : Int) = 1 ∧ kindAt cs (q : Int) = 1
      · rw [if_pos c2, if_pos (c2i.2 c2)]
        rcases Nat.lt_or_gt_of_ne hpq with hlt | hlt
        · have hv := h.mono p q hLp hLq hlt
          rw [show max ((p : Nat) : Int) (q : Nat) = (q : Int) from by omega, show min ((p : Nat) : Int) (q : Nat) = (p : Int) from by omega, show max (valI to p) (valI to q) = valI to q from by omega, show min (valI to p) (valI to q) = valI to p from by omega]
          exact bnd q p hLq hLp (by omega) (by omega) fun hh => by
            have := Rc_free hh (fp c2.1)
            omega
        · have hv := h.mono q p hLq hLp hlt
          rw [show max ((p : Nat) : Int) (q : Nat) = (p : Int) from by omega, show min ((p : Nat) : Int) (q : Nat) = (q : Int) from by omega, show max (valI to p) (valI to q) = valI to p from by omega, show min (valI to p) (valI to q) = valI to q from by omega]
          exact bnd p q hLp hLq (by omega) (by omega) fun hh => by
            have := Rc_free hh (fq c2.2)
            omega
      · rw [if_neg c2, if_neg (mt c2i.1 c2), k1, k2, h.reach hU.sh hU2.sh hLp hLq, h.reach hU.sh hU2.sh hLq hLp]
        by_cases c3 : kindAt cs (q : Int) = 1
        · rw [if_pos c3, if_pos c3]
          by_cases c : atB (liveB cs [(p : Int)]) q = true
          · rw [if_pos c, if_pos c]
            exact .inl ⟨rfl, rfl⟩
          · rw [if_neg c, if_neg c]
            exact bnd q p hLq hLp (by omega) (by omega) fun hh => c ((liveB_iff hU.sh hql).2 ⟨_, by simp, by omega, hh⟩)
        · rw [if_neg c3, if_neg c3]
          by_cases c4 : kindAt cs (p : Int) = 1
          · rw [if_pos c4, if_pos c4]
            by_cases c : atB (liveB cs [(q : Int)]) p = true
            · rw [if_pos c, if_pos c]
              exact .inl ⟨rfl, rfl⟩
            · rw [if_neg c, if_neg c]
              exact bnd p q hLp hLq (by omega) (by omega) fun hh => c ((liveB_iff hU.sh hpl).2 ⟨_, by simp, by omega, hh⟩)
          · rw [if_neg c4, if_neg c4]
            have kp := kindAt_at hpl
            have kq := kindAt_at hql
            have n1 : ¬ (cs[p].kind = 1 ∨ cs[p].kind = 3) := by
              intro hh
              rcases hh with hh | hh
              · omega
              · have := hfa.end_
                rw [stepF_at hpl, if_pos (.inr hh)] at this
                cases this
            have n2 : ¬ (cs[q].kind = 1 ∨ cs[q].kind = 3) := by
              intro hh
              rcases hh with hh | hh
              · omega
              · have := hfb.end_
                rw [stepF_at hql, if_pos (.inr hh)] at this
                cases this
            have d1 : cellAt cs2 (valI to p) = cellAt cs (p : Int) := by
              rw [h.cellAt hLp, cellAt_at hpl]
              exact slotM_n' n1
            have d2 : cellAt cs2 (valI to q) = cellAt cs (q : Int) := by
              rw [h.cellAt hLq, cellAt_at hql]
              exact slotM_n' n2
            rw [d1, d2]
            by_cases c5 : sameC (cellAt cs (p : Int)) (cellAt cs (q : Int)) = true
            · rw [if_pos c5, if_pos c5]
              have hns : ((p : Int), (q : Int)) ∉ seen := fun hh => c1 (.inr hh)
              have hmore : moreI cs2 (valI to p) (valI to q) = (moreI cs p q).map (pT to) ∧ InL L (moreI cs p q) := by
                unfold moreI
                rw [k1, d1]
                by_cases c6 : kindAt cs (p : Int) = 4
                · rw [if_pos c6, if_pos c6]
                  have c5' := c5
                  rw [cellAt_at hpl, cellAt_at hql] at c5'
                  simp only [sameC, Bool.and_eq_true, decide_eq_true_eq] at c5'
                  rw [cellAt_at hpl]
                  have key : ∀ x : Nat, L x → ∀ hx : x < cs.length, cs[x].kind = 4 → cs[x].n = cs[p].n → ∀ i : Nat, i < cs[p].n.toNat → valI to ((x : Int) + 1 + i) = valI to x + 1 + i ∧ ∃ k : Nat, (x : Int) + 1 + i = k ∧ L k := fun x hx hxl hk hn i hi =>
                    ⟨h.top x _ hx (List.getElem?_eq_getElem hxl) hk i (by omega), h.next hU.sh hx (by
                      rw [leadsI_at hxl, if_neg (by omega), if_pos hk]
                      exact List.mem_map.2 ⟨i, List.mem_range.2 (by omega), rfl⟩)⟩
                  have kp4 : cs[p].kind = 4 := by omega
                  constructor
                  · unfold pairsI
                    rw [List.map_map]
                    refine List.map_congr_left fun i hi => ?_
                    rw [List.mem_range] at hi
                    have g1 := (key p hLp hpl kp4 rfl i hi).1
                    have g2 := (key q hLq hql (by omega) (by omega) i hi).1
                    simp only [Function.comp, pT]
                    rw [g1, g2]
                  · intro x hx
                    obtain ⟨i, hi, rfl⟩ := List.mem_map.1 hx
                    rw [List.mem_range] at hi
                    exact ⟨(key p hLp hpl kp4 rfl i hi).2, (key q hLq hql (by omega) (by omega) i hi).2⟩
                · rw [if_neg c6, if_neg c6]
                  exact ⟨rfl, fun x hx => by cases hx⟩
              have hrow : moreI cs2 (valI to p) (valI to q) ++ row.map (pT to) = (moreI cs p q ++ row).map (pT to) := by rw [List.map_append, hmore.1]
              have hseen : seen.map (pT to) ++ [(valI to p, valI to q)] = (seen ++ [((p : Int), (q : Int))]).map (pT to) := by rw [List.map_append]; rfl
              rw [hrow, hseen]
              have U1 := hU.more (x := (p : Int)) (y := (q : Int)) (by omega) (by omega) (by omega) (by omega) c5 hns
              have U2 := UI.more (p := pT to ((i : Int), (j : Int))) (row := row.map (pT to)) hU2 (x := valI to p) (y := valI to q) (by omega) (by omega) (by omega) (by omega) (by rw [d1, d2]; exact c5) (fun hh => hns (hm.1 hh))
              rw [hrow, hseen] at U2
              refine unif_sim n _ _ _ _ _ _ h U1 U2 (fun x hx => ?_) (fun x hx => ?_)
              · rcases List.mem_append.1 hx with hx | hx
                · exact hmore.2 x hx
                · exact hr' x hx
              · rcases List.mem_append.1 hx with hx | hx
                · exact hse x hx
                · have : x = ((p : Int), (q : Int)) := by simpa using hx
                  subst this
                  exact ⟨⟨p, rfl, hLp⟩, q, rfl, hLq⟩
            · rw [if_neg c5, if_neg c5]
              exact .inl ⟨rfl, rfl⟩
end Go.Proofs.Ytnmkffkalnkbbaa.Pl
