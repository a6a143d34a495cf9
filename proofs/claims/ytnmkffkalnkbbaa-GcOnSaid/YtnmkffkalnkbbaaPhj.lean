/-
  Plain words: heaps that are made by putting terms, making places alike, and marks. No program of Go stands here.
  No condition but the premises of each theorem.
-/
import Derived.Test.YtnmkffkalnkbbaaPhi
import Derived.Laws.Closers25b
namespace Go.Proofs.Ytnmkffkalnkbbaa.Pl
set_option linter.unusedVariables false
set_option linter.unusedSimpArgs false
/-! ### Variables below 8 -/
def lowC (c : Cell) : Cell := if c.kind = 1 then ⟨c.kind, c.name, c.n % 8⟩ else c
def lowI (t : List Cell) : List Cell := t.map lowC
theorem endI_map {f : Cell → Cell} : ∀ (l : List Cell) (o i : Int), (∀ c ∈ l, cellB c = true ∧ cellB (f c) = true ∧ nfC (f c) = nfC c) → endI (l.map f) o i = endI l o i
  | [], _, _, _ => rfl
  | c :: l, o, i, h => by
    obtain ⟨h1, h2, h3⟩ := h c (by simp)
    rw [List.map_cons, endI, endI, if_pos h1, if_pos h2, stepE_nf, stepE_nf, h3, endI_map l _ _ (fun x hx => h x (by simp [hx]))]
theorem lowC_ok {c : Cell} (h : cellB c = true) : cellB (lowC c) = true ∧ nfC (lowC c) = nfC c := by
  unfold lowC
  split
  · rename_i hk
    have h2 := h
    unfold cellB at h2
    rw [if_pos hk] at h2
    simp only [Bool.and_eq_true, decide_eq_true_eq] at h2
    refine ⟨?_, ?_⟩
    · unfold cellB
      simp only [hk, if_true, Bool.and_eq_true, decide_eq_true_eq]
      exact ⟨⟨h2.1.1, by omega⟩, by omega⟩
    · simp [nfC, hk]
  · exact ⟨h, rfl⟩
theorem low_isT {t : List Cell} (h : isT t) : isT (lowI t) := by
  unfold isT lowI
  rw [endI_map t 1 0 (fun c hc => ⟨h.cellB c hc, lowC_ok (h.cellB c hc)⟩), List.length_map]
  exact h
/-! ### What is undone -/
theorem freeC_get {cs : List Cell} : ∀ (l : List Int), (∀ x ∈ l, 0 ≤ x) → ∀ p : Nat, (freeC cs l)[p]? = if (p : Int) ∈ l then (if p < cs.length then some (refC p) else none) else cs[p]? := by
  intro l
  induction l generalizing cs with
  | nil => exact fun _ p => by simp [freeC]
  | cons x l ih =>
    intro hl p
    have hx := hl x (by simp)
    unfold freeC
    rw [List.foldl_cons]
    have := ih (cs := bindC cs x x) (fun y hy => hl y (by simp [hy])) p
    unfold freeC at this
    rw [this, bindC_len]
    by_cases h1 : (p : Int) ∈ l
    · rw [if_pos h1, if_pos (List.mem_cons_of_mem _ h1)]
    · rw [if_neg h1]
      unfold bindC
      rw [List.getElem?_set]
      by_cases h2 : (p : Int) = x
      · rw [if_pos (show x.toNat = p by omega), if_pos (show (p : Int) ∈ x :: l from by rw [h2]; simp), show x.toNat = p from by omega, ← h2]
      · rw [if_neg (show ¬ x.toNat = p by omega), if_neg (fun hh => (List.mem_cons.1 hh).elim h2 h1)]
theorem undo_get {cs : List Cell} {tr : List Int} (h : ∀ x ∈ tr, 0 ≤ x) (a t p : Nat) : (undoC cs tr a t)[p]? = if p < a then (if (p : Int) ∈ tr.drop t then (if p < cs.length then some (refC p) else none) else cs[p]?) else none := by
  unfold undoC
  rw [List.getElem?_take]
  split
  · exact freeC_get _ (fun x hx => h x (List.mem_of_mem_drop hx)) p
  · rfl
theorem SlR.ref {cs : List Cell} (h : SlR cs) {p : Nat} (hp : p < cs.length) (hk : cs[p].kind = 1) (hn : cs[p].n = p) : cs[p] = refC p := by
  have h1 := h p hp
  unfold SlotR at h1
  have h2 : cs[p].name.toList = [] := by
    rcases h1 with h1 | h1 | h1 | h1
    · exact h1.2.1
    · omega
    · omega
    · omega
  have h3 := (Go.toList_nil_iff_emptyBytes cs[p].name).1 h2
  generalize cs[p] = c at hk hn h3
  cases c
  simp only at hk hn h3
  subst hk
  subst hn
  subst h3
  rfl
/-! ### What is made alike -/
structure UR (cs : List Cell) (tr : List Int) (cs' : List Cell) (tr' : List Int) (news : List Int) : Prop where
  len : cs'.length = cs.length
  trl : tr' = tr ++ news
  was : ∀ x ∈ news, (0 ≤ x ∧ x < cs.length) ∧ cs[x.toNat]? = some (refC x)
  same : ∀ p : Nat, (p : Int) ∉ news → cs'[p]? = cs[p]?
  ok : HpOk cs' tr'
theorem UR.refl {cs : List Cell} {tr : List Int} (h : HpOk cs tr) : UR cs tr cs tr [] := ⟨rfl, by simp, by simp, fun _ _ => rfl, h⟩
theorem SlR.bind {cs : List Cell} (h : SlR cs) {x y : Int} (h0 : 0 ≤ x) (hk : kindAt cs x = 1) (hy0 : 0 ≤ y) (hy1 : y < cs.length) : SlR (bindC cs x y) := fun p hp => by
  have hp' : p < cs.length := by rw [bindC_len] at hp; exact hp
  rw [bindC_at h0 hp hp']
  unfold SlotR
  rw [bindC_len]
  split
  · exact .inl ⟨rfl, empty_toList, hy0, hy1⟩
  · have h1 := h p hp'
    unfold SlotR at h1
    simp only [kindAt_bind h0 hk]
    exact h1
theorem boundB_get {cs cs' : List Cell} {x : Int} (h : cs'[x.toNat]? = cs[x.toNat]?) : boundB cs' x = boundB cs x := by
  unfold boundB
  rw [h]
theorem free_not_mem {cs : List Cell} {tr : List Int} (h : HpOk cs tr) {x : Nat} (hx : x < cs.length) (hf : cs[x] = refC x) : (x : Int) ∉ tr := fun hm => by
  have := h.bound _ hm
  rw [boundB_at hx, hf] at this
  simp [refC] at this
/-- A free variable that is bound. -/
theorem UR.bind {cs : List Cell} {tr : List Int} {cs' : List Cell} {tr' news : List Int} (h : UR cs tr cs' tr' news) {x : Nat} {y : Int} (hx : x < cs'.length) (hf : cs'[x] = refC x) (hy0 : 0 ≤ y) (hy1 : y < cs'.length) (hn : ¬ Rc cs' y x) : UR cs tr (bindC cs' x y) (tr' ++ [(x : Int)]) (news ++ [(x : Int)]) := by
  have hk : kindAt cs' (x : Int) = 1 := by rw [kindAt_at hx, hf]; rfl
  have hxy : y ≠ x := fun e => hn (by rw [e]; exact .refl _)
  have hnot := free_not_mem h.ok hx hf
  have hnn : (x : Int) ∉ news := fun hm => hnot (by rw [h.trl]; exact List.mem_append.2 (.inr hm))
  have hget : ∀ p : Nat, p ≠ x → (bindC cs' (x : Int) y)[p]? = cs'[p]? := fun p hp => by
    unfold bindC
    rw [List.getElem?_set, if_neg (by omega)]
  refine ⟨(bindC_len _ _ _).trans h.len, by rw [h.trl, List.append_assoc], fun z hz => ?_, fun p hp => ?_, ?_, ?_, ?_, ?_⟩
  · rcases List.mem_append.1 hz with hz | hz
    · exact h.was z hz
    · obtain rfl : z = (x : Int) := by simpa using hz
      have hl := h.len
      refine ⟨by omega, ?_⟩
      show cs[x]? = _
      rw [← h.same x hnn]
      rw [List.getElem?_eq_getElem hx, hf]
  · rw [hget p (fun e => hp (by subst e; simp)), h.same p (fun hh => hp (by simp [hh]))]
  · exact h.ok.slots.bind (by omega) hk hy0 hy1
  · exact bind_rk h.ok.slots.ok h.ok.rank (by omega) (by omega) hy0 hy1 hn
  · intro z hz
    rcases List.mem_append.1 hz with hz | hz
    · have hb := h.ok.bound z hz
      have hl := boundB_lt hb
      obtain ⟨k, rfl⟩ := Int.eq_ofNat_of_zero_le hl.1
      have : k ≠ x := fun e => hnot (by rw [← e]; exact hz)
      rw [boundB_get (show (bindC cs' (x : Int) y)[((k : Nat) : Int).toNat]? = cs'[((k : Nat) : Int).toNat]? from hget k this)]
      exact hb
    · obtain rfl : z = (x : Int) := by simpa using hz
      have hx2 : x < (bindC cs' (x : Int) y).length := by rw [bindC_len]; exact hx
      rw [boundB_at hx2, bindC_at (by omega) hx2 hx, if_pos rfl]
      simp [refC, hxy]
  · refine List.nodup_append.2 ⟨h.ok.nodup, by simp, fun a ha b hb hab => ?_⟩
    have : b = (x : Int) := by simpa using hb
    rw [this] at hab
    rw [hab] at ha
    exact hnot ha
/-- Making alike keeps a heap right, and binds free variables alone. -/
theorem unif_ur {cs : List Cell} {tr : List Int} : ∀ (n : Nat) (cs1 : List Cell) (tr1 news : List Int) (row seen : List (Int × Int)) (cs2 : List Cell) (tr2 : List Int), UR cs tr cs1 tr1 news → UI cs.length n cs1 row seen → unif n cs1 tr1 row seen = some (cs2, tr2) → ∃ news', UR cs tr cs2 tr2 news'
  | n, cs1, tr1, news, [], seen, cs2, tr2, h, _, he => by
    have : unif n cs1 tr1 [] seen = some (cs1, tr1) := by cases n <;> rw [unif]
    rw [this] at he
    simp only [Option.some.injEq, Prod.mk.injEq] at he
    obtain ⟨rfl, rfl⟩ := he
    exact ⟨news, h⟩
  | 0, cs1, tr1, news, (a, b) :: row, seen, cs2, tr2, h, hU, he => by
    obtain ⟨m, hm⟩ := hU.pos
    omega
  | n + 1, cs1, tr1, news, (a, b) :: row, seen, cs2, tr2, h, hU, he => by
    have hab := hU.rowp (a, b) (by simp)
    simp only at hab
    obtain ⟨ma, hfa, ha0, ha1⟩ := hU.fol hab.1.1 hab.1.2
    obtain ⟨mb, hfb, hb0, hb1⟩ := hU.fol hab.2.1 hab.2.2
    have hl := hU.len
    rw [unif] at he
    generalize followC cs1 a = x at hfa ha0 ha1 he
    generalize followC cs1 b = y at hfb hb0 hb1 he
    obtain ⟨p, rfl⟩ := Int.eq_ofNat_of_zero_le ha0
    obtain ⟨q, rfl⟩ := Int.eq_ofNat_of_zero_le hb0
    have hpl : p < cs1.length := by omega
    have hql : q < cs1.length := by omega
    have hkp := kindAt_at hpl
    have hkq := kindAt_at hql
    split at he
    · exact unif_ur n cs1 tr1 news row seen cs2 tr2 h hU.skip he
    · rename_i hne
      have fp : kindAt cs1 (p : Int) = 1 → leadsI cs1 (p : Int) = [] ∧ cs1[p] = refC p := fun hk => by
        obtain ⟨g1, g2⟩ := fol_free hfa.end_ (by omega) (by omega) hk
        rw [cellAt_at hpl] at g2
        exact ⟨g1, h.ok.slots.ref hpl (by rw [← hkp]; exact hk) g2⟩
      have fq : kindAt cs1 (q : Int) = 1 → leadsI cs1 (q : Int) = [] ∧ cs1[q] = refC q := fun hk => by
        obtain ⟨g1, g2⟩ := fol_free hfb.end_ (by omega) (by omega) hk
        rw [cellAt_at hql] at g2
        exact ⟨g1, h.ok.slots.ref hql (by rw [← hkq]; exact hk) g2⟩
      have hpq : p ≠ q := fun e => hne (.inl (by omega))
      split at he
      · rename_i hb
        rcases Nat.le_total p q with hle | hle
        · rw [show max ((p : Nat) : Int) (q : Nat) = (q : Int) from by omega, show min ((p : Nat) : Int) (q : Nat) = (p : Int) from by omega] at he
          have hnr : ¬ Rc cs1 (p : Int) (q : Int) := fun hh => by
            have := Rc_free hh (fp hb.1).1
            omega
          exact unif_ur n _ _ _ row seen cs2 tr2 (h.bind hql (fq hb.2).2 (by omega) (by omega) hnr) (hU.skip.bind (by omega) (by omega) (by omega) (by omega) hnr) he
        · rw [show max ((p : Nat) : Int) (q : Nat) = (p : Int) from by omega, show min ((p : Nat) : Int) (q : Nat) = (q : Int) from by omega] at he
          have hnr : ¬ Rc cs1 (q : Int) (p : Int) := fun hh => by
            have := Rc_free hh (fq hb.2).1
            omega
          exact unif_ur n _ _ _ row seen cs2 tr2 (h.bind hpl (fp hb.1).2 (by omega) (by omega) hnr) (hU.skip.bind (by omega) (by omega) (by omega) (by omega) hnr) he
      · split at he
        · rename_i hq1
          split at he
          · cases he
          · rename_i hr
            have hnr : ¬ Rc cs1 (p : Int) (q : Int) := fun hh => hr ((liveB_iff hU.sh hql).2 ⟨_, by simp, by omega, hh⟩)
            exact unif_ur n _ _ _ row seen cs2 tr2 (h.bind hql (fq hq1).2 (by omega) (by omega) hnr) (hU.skip.bind (by omega) (by omega) (by omega) (by omega) hnr) he
        · split at he
          · rename_i hp1
            split at he
            · cases he
            · rename_i hr
              have hnr : ¬ Rc cs1 (q : Int) (p : Int) := fun hh => hr ((liveB_iff hU.sh hpl).2 ⟨_, by simp, by omega, hh⟩)
              exact unif_ur n _ _ _ row seen cs2 tr2 (h.bind hpl (fp hp1).2 (by omega) (by omega) hnr) (hU.skip.bind (by omega) (by omega) (by omega) (by omega) hnr) he
          · split at he
            · rename_i hsm
              exact unif_ur n cs1 tr1 news _ _ cs2 tr2 h (hU.more (by omega) (by omega) (by omega) (by omega) hsm (fun hh => hne (.inr hh))) he
            · cases he
theorem UI.start {cs : List Cell} {tr : List Int} (h : HpOk cs tr) {a b : Int} (ha : 0 ≤ a ∧ a < cs.length) (hb : 0 ≤ b ∧ b < cs.length) : UI cs.length (7 * (cs.length * cs.length) + 1) cs [(a, b)] [] :=
  ⟨rfl, h.slots.ok, h.rank, fun p hp => by
    have : p = (a, b) := by simpa using hp
    subst this
    exact ⟨ha, hb⟩, (by intro p hp; cases hp), List.nodup_nil, by simp⟩
/-! ### Heaps that are made -/
structure MadeI (k : Nat) (cs : List Cell) (tr ats vars : List Int) (ms : List Mk) : Prop where
  ok : HpOk cs tr
  few : cs.length ≤ 20 * k
  at_ : ∀ x ∈ ats, 0 ≤ x ∧ x < cs.length
  atl : ats.length ≤ k
  vars_ : ∀ x ∈ vars, x = -1 ∨ (0 ≤ x ∧ x < cs.length)
  varl : vars.length ≤ 1000
  msl : ms.length ≤ k
  mks : ∀ m ∈ ms, MkOk cs.length tr.length m ∧ m.roots.length ≤ k ∧ (∀ x ∈ m.roots, 0 ≤ x ∧ x < m.cells) ∧ HpOk (undoC cs tr m.cells.toNat m.trail.toNat) (tr.take m.trail.toNat)
  rise : ms.Pairwise fun a b => a.cells ≤ b.cells ∧ a.trail ≤ b.trail
theorem HpOk.range {cs : List Cell} {tr : List Int} (h : HpOk cs tr) : ∀ x ∈ tr, 0 ≤ x ∧ x < cs.length := fun x hx => boundB_lt (h.bound x hx)
theorem HpOk.trl {cs : List Cell} {tr : List Int} (h : HpOk cs tr) : tr.length ≤ cs.length := nodup_le h.nodup h.range
theorem MadeI.start : MadeI 0 [] [] [] [] [] :=
  ⟨⟨fun p hp => absurd hp (by simp), ⟨fun _ => 0, fun p hp => absurd hp (by simp)⟩, by simp, List.nodup_nil⟩, Nat.le_refl _, by simp, Nat.le_refl _, by simp, by simp, Nat.le_refl _, by simp, List.Pairwise.nil⟩
theorem MadeI.mono {k : Nat} {cs : List Cell} {tr ats vars : List Int} {ms : List Mk} (h : MadeI k cs tr ats vars ms) : MadeI (k + 1) cs tr ats vars ms :=
  ⟨h.ok, by have := h.few; omega, h.at_, by have := h.atl; omega, h.vars_, h.varl, by have := h.msl; omega, fun m hm => by
    obtain ⟨h1, h2, h3⟩ := h.mks m hm
    exact ⟨h1, by omega, h3⟩, h.rise⟩
theorem MadeI.mark {k : Nat} {cs : List Cell} {tr ats vars : List Int} {ms : List Mk} (h : MadeI k cs tr ats vars ms) {roots : List Int} (hr : ∀ x ∈ roots, x ∈ ats) (hl : roots.length ≤ k + 1) : MadeI (k + 1) cs tr ats vars (ms ++ [⟨(cs.length : Nat), (tr.length : Nat), roots⟩]) := by
  have h1 := h.mono
  refine ⟨h1.ok, h1.few, h1.at_, h1.atl, h1.vars_, h1.varl, by have := h.msl; simp; omega, fun m hm => ?_, List.pairwise_append.2 ⟨h.rise, by simp, fun a ha b hb => ?_⟩⟩
  · rcases List.mem_append.1 hm with hm | hm
    · exact h1.mks m hm
    · obtain rfl : m = _ := by simpa using hm
      refine ⟨⟨⟨by simp, by simp⟩, by simp, by simp⟩, hl, fun x hx => h.at_ x (hr x hx), ?_⟩
      have hu : undoC cs tr cs.length tr.length = cs := by unfold undoC; simp [freeC]
      simp only [Int.toNat_natCast]
      rw [hu, List.take_length]
      exact h.ok
  · have : b = ⟨(cs.length : Nat), (tr.length : Nat), roots⟩ := by simpa using hb
    subst this
    obtain ⟨⟨g1, g2⟩, _⟩ := h.mks a ha
    exact ⟨g1.2, g2.2⟩
theorem MadeI.put {k : Nat} {cs : List Cell} {tr ats vars : List Int} {ms : List Mk} (h : MadeI k cs tr ats vars ms) {n : Nat} {r : Int × Stt} (hr : PutOk cs n r) (hn : n ≤ 10) : MadeI (k + 1) r.2.1 tr (ats ++ [r.1]) r.2.2 ms := by
  have hfew := h.few
  have hle := hr.less
  have hlen := hr.len
  have hrg := h.ok.range
  have hbd : ∀ x ∈ tr, boundB r.2.1 x = true := fun x hx => by
    have := hrg x hx
    rw [boundB_get (hr.pre x.toNat (by omega))]
    exact h.ok.bound x hx
  refine ⟨⟨hr.slr, hr.rk, hbd, h.ok.nodup⟩, by omega, fun x hx => ?_, by have := h.atl; simp; omega, hr.atp, hr.atl, by have := h.msl; omega, fun m hm => ?_, h.rise⟩
  · rcases List.mem_append.1 hx with hx | hx
    · have := h.at_ x hx
      omega
    · have : x = r.1 := by simpa using hx
      rw [this]
      exact hr.place
  · obtain ⟨⟨g1, g2⟩, g3, g4, g5⟩ := h.mks m hm
    refine ⟨⟨by omega, g2⟩, by omega, g4, ?_⟩
    have : undoC r.2.1 tr m.cells.toNat m.trail.toNat = undoC cs tr m.cells.toNat m.trail.toNat := by
      apply List.ext_getElem?
      intro p
      rw [undo_get (fun x hx => (hrg x hx).1), undo_get (fun x hx => (hrg x hx).1)]
      by_cases hp : p < m.cells.toNat
      · rw [if_pos hp, if_pos hp, if_pos (show p < r.2.1.length by omega), if_pos (show p < cs.length by omega), hr.pre p (by omega)]
      · rw [if_neg hp, if_neg hp]
    rw [this]
    exact g5
theorem UR.undo {cs : List Cell} {tr : List Int} {cs' : List Cell} {tr' news : List Int} (h : UR cs tr cs' tr' news) (h0 : HpOk cs tr) {a t : Nat} (ht : t ≤ tr.length) : undoC cs' tr' a t = undoC cs tr a t := by
  have hrg := h0.range
  have hrg' := h.ok.range
  apply List.ext_getElem?
  intro p
  rw [undo_get (fun x hx => (hrg' x hx).1), undo_get (fun x hx => (hrg x hx).1), h.trl, List.drop_append_of_le_length ht, h.len]
  by_cases hp : p < a
  · rw [if_pos hp, if_pos hp]
    by_cases h1 : (p : Int) ∈ tr.drop t
    · rw [if_pos (List.mem_append.2 (.inl h1)), if_pos h1]
    · by_cases h2 : (p : Int) ∈ news
      · rw [if_pos (List.mem_append.2 (.inr h2)), if_neg h1]
        have := h.was _ h2
        rw [if_pos (by omega)]
        exact this.2.symm
      · rw [if_neg (fun hh => (List.mem_append.1 hh).elim h1 h2), if_neg h1, h.same p h2]
  · rw [if_neg hp, if_neg hp]
theorem MadeI.alike {k : Nat} {cs : List Cell} {tr ats vars : List Int} {ms : List Mk} (h : MadeI k cs tr ats vars ms) {cs' : List Cell} {tr' news : List Int} (hu : UR cs tr cs' tr' news) : MadeI (k + 1) cs' tr' ats vars ms := by
  have h1 := h.mono
  have hl := hu.len
  have htl : tr'.length = tr.length + news.length := by rw [hu.trl, List.length_append]
  refine ⟨hu.ok, by rw [hl]; exact h1.few, by rw [hl]; exact h1.at_, h1.atl, by rw [hl]; exact h1.vars_, h1.varl, h1.msl, fun m hm => ?_, h.rise⟩
  obtain ⟨⟨g1, g2⟩, g3, g4, g5⟩ := h1.mks m hm
  refine ⟨⟨by omega, by omega⟩, g3, g4, ?_⟩
  rw [hu.undo h.ok (by omega), hu.trl, List.take_append_of_le_length (by omega)]
  exact g5
theorem MadeI.unif {k n : Nat} {cs : List Cell} {tr ats vars : List Int} {ms : List Mk} (h : MadeI k cs tr ats vars ms) {a b : Int} (ha : a ∈ ats) (hb : b ∈ ats) (hn : n = 7 * (cs.length * cs.length) + 1) : MadeI (k + 1) ((Pl.unif n cs tr [(a, b)] []).getD (cs, tr)).1 ((Pl.unif n cs tr [(a, b)] []).getD (cs, tr)).2 ats vars ms := by
  cases he : Pl.unif n cs tr [(a, b)] [] with
  | none => exact h.mono
  | some r =>
    obtain ⟨cs2, tr2⟩ := r
    have hU := UI.start h.ok (h.at_ a ha) (h.at_ b hb)
    rw [← hn] at hU
    obtain ⟨news, hu⟩ := unif_ur n cs tr [] _ _ cs2 tr2 (UR.refl h.ok) hU he
    exact h.alike hu
end Go.Proofs.Ytnmkffkalnkbbaa.Pl
