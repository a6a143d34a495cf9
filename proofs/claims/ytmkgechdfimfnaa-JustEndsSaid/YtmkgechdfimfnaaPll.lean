/-
  Plain laws: what the first steps tell; what is refused; proofs without steps; lies. No program of Go stands here.
  No condition but the premises of each theorem.
-/
import Derived.Test.YtmkgechdfimfnaaPlk
namespace Go.Proofs.Ytmkgechdfimfnaa.Pl
theorem one_eq {l : List Int} {x : Int} (h : l.length = 1) (h0 : 0 < l.length) : (l[0] = x) = (l = [x]) := by
  match l, h with
  | [y], _ => simp
/-! ### What is open is held, by count -/
theorem nodup_sub : ∀ {l O : List Int}, l.Nodup → (∀ x ∈ l, x ∈ O) → l.length ≤ O.length
  | [], _, _, _ => Nat.zero_le _
  | x :: l, O, h, hs => by
    obtain ⟨h1, h2⟩ := List.nodup_cons.1 h
    have hx := hs x (by simp)
    have := nodup_sub (l := l) (O := O.erase x) h2 fun y hy => (List.mem_erase_of_ne (fun he => h1 (by rw [← he]; exact hy))).2 (hs y (by simp [hy]))
    rw [List.length_erase_of_mem hx] at this
    have h3 := List.length_pos_of_mem hx
    simp only [List.length_cons]
    omega
def openN (m : List Int) : Nat := m.countP fun v => decide (v = 1)
theorem openN_succ {m : List Int} {k : Nat} (hk : k < m.length) : ((m.take (k + 1)).countP fun v => decide (v = 1)) = ((m.take k).countP fun v => decide (v = 1)) + if m[k] = 1 then 1 else 0 := by
  rw [List.take_succ_eq_append_getElem hk, List.countP_append]
  by_cases h : m[k] = 1 <;> simp [h]
theorem openN_le (m : List Int) (k : Nat) : ((m.take k).countP fun v => decide (v = 1)) ≤ k := by
  have h1 := List.countP_le_length (p := fun v : Int => decide (v = 1)) (l := m.take k)
  have h2 : (m.take k).length ≤ k := by simp; omega
  exact Nat.le_trans h1 h2
def openL (m : List Int) : List Int := pickI (fun i => decide (m.getD i 0 = 1)) m.length
theorem openL_mem {m : List Int} {a : Nat} (ha : a < m.length) : (a : Int) ∈ openL m ↔ m.getD a 0 = 1 := by
  unfold openL
  rw [mem_pickI]
  constructor
  · rintro ⟨i, h1, h2, h3⟩
    have : i = a := by omega
    subst this
    simpa using h2
  · intro h
    exact ⟨a, ha, by simpa using h, rfl⟩
theorem openL_len (m : List Int) : (openL m).length = openN m := by
  have : ∀ k, k ≤ m.length → ((List.range k).filter fun i => decide (m.getD i 0 = 1)).length = (m.take k).countP fun v => decide (v = 1) := fun k => by
    induction k with
    | zero => simp
    | succ k ih =>
      intro hk
      rw [List.range_succ, List.filter_append, List.length_append, ih (by omega), List.take_succ_eq_append_getElem (by omega), List.countP_append]
      have hkm : k < m.length := by omega
      by_cases h : m[k]'(by omega) = 1
      · simp [hkm, h]
      · simp [hkm, h]
  have h2 := this m.length (Nat.le_refl _)
  rw [List.take_length] at h2
  simpa [openL, openN, pickI] using h2
def heldC (rs : List Rule) (m l : List Int) : Bool := match heldL rs m [] l with
  | some heads => decide (openN m = heads.length)
  | none => false
section
variable {n : Nat} {rs : List Rule}

/-! ### What the first steps tell is so -/
theorem sound_model (h : PrOk n rs) {m : List Int} (hm : Sound n rs m) {a : Nat} (ha : a < n) (hv : m.getD a 0 ≠ 1) : m.getD a 0 = (modelI n rs).getD a 0 := by
  rw [model_at ha]
  rcases hm.v a (by omega) (by omega) with h1 | h1 | h1
  · have h2 := hm.f a (by omega) (by omega) h1
    have h3 : ¬ atB (lowB n rs) (a : Int) = true := fun hh => h2 (low_high h a hh)
    rw [if_neg h3, if_neg h2]
    exact h1
  · exact absurd h1 hv
  · rw [if_pos (hm.t a (by omega) (by omega) h1)]
    exact h1
theorem partly_told : ∀ (l : List Step) {m : List Int}, m.length = n → (partly rs m l).2 + cntB (toldB n m) ≤ cntB (toldB n (partly rs m l).1)
  | [], m, _ => by simp [partly]
  | s :: l, m, hm => by
    rw [partly]
    split
    · rename_i hs
      have h1 := told_lt hm (stepOk_set hs)
      have h2 := partly_told l (m := tellI m s) (by rw [tellI_len, hm])
      simp only []
      omega
    · simp
def toldN (m : List Int) (k : Nat) : Nat := (m.take k).countP fun v => !decide (v = 1)
theorem toldN_all {m : List Int} (hm : m.length = n) : toldN m n = cntB (toldB n m) := by
  have : toldB n m = m.map fun v => !decide (v = 1) := by
    refine List.ext_getElem (by simp [toldB, soB, hm]) fun i h1 h2 => ?_
    have : i < m.length := by simpa using h2
    simp [toldB, soB, this]
  rw [this, toldN, List.take_of_length_le (by omega)]
  simp [cntB, List.countP_map]
theorem toldN_le (m : List Int) (k : Nat) : toldN m k ≤ k := by
  have h1 := List.countP_le_length (p := fun v : Int => !decide (v = 1)) (l := m.take k)
  have h2 : (m.take k).length ≤ k := by simp; omega
  exact Nat.le_trans h1 h2
theorem toldN_succ {m : List Int} {k : Nat} (hk : k < m.length) : toldN m (k + 1) = toldN m k + if m[k] = 1 then 0 else 1 := by
  rw [toldN, List.take_succ_eq_append_getElem hk, List.countP_append, toldN]
  by_cases h : m[k] = 1 <;> simp [h]

/-! ### The first steps are all that count -/
theorem partly_take : ∀ (l : List Step) (m : List Int) (k : Nat), k ≤ (partly rs m l).2 → (partly rs m (l.take k)).2 = k ∧ (partly rs m l).1 = (partly rs (partly rs m (l.take k)).1 (l.drop k)).1
  | l, m, 0, _ => by simp [partly]
  | [], m, k + 1, h => by simp [partly] at h
  | s :: l, m, k + 1, h => by
    rw [partly] at h
    by_cases hs : stepOk rs m s = true
    · rw [if_pos hs] at h
      have ih := partly_take l (tellI m s) k (by simpa using h)
      rw [List.take_succ_cons, List.drop_succ_cons, partly, if_pos hs, partly, if_pos hs]
      exact ⟨by simp [ih.1], ih.2⟩
    · rw [if_neg hs] at h
      simp at h
theorem partly_self : ∀ (l : List Step) (m : List Int), partly rs m (l.take (partly rs m l).2) = partly rs m l
  | [], _ => rfl
  | s :: l, m => by
    rw [partly]
    by_cases hs : stepOk rs m s = true
    · rw [if_pos hs, List.take_succ_cons, partly, if_pos hs, partly_self l (tellI m s)]
    · rw [if_neg hs]
      rfl
theorem partly_keep : ∀ (l : List Step) {m : List Int} {a : Int}, 0 ≤ a → a < m.length → valI m a ≠ 1 → valI (partly rs m l).1 a = valI m a
  | [], _, _, _, _, _ => rfl
  | s :: l, m, a, h0, ha, hv => by
    rw [partly]
    split
    · rename_i hs
      have h1 : valI (tellI m s) a = valI m a := by
        rw [tell_val (stepOk_set hs) h0 ha, if_neg]
        exact fun hin => hv ((setOpen_iff.1 (stepOk_set hs)).1 a hin).2
      have := partly_keep l (m := tellI m s) h0 (by rw [tellI_len]; exact ha) (by rw [h1]; exact hv)
      simp only [this, h1]
    · rfl
theorem parts_keep {l : List Step} {m : List Int} {k : Nat} (hk : k ≤ (partly rs m l).2) {a : Int} (h0 : 0 ≤ a) (ha : a < m.length) (hv : valI (partly rs m (l.take k)).1 a ≠ 1) : valI (partly rs m l).1 a = valI (partly rs m (l.take k)).1 a := by
  rw [(partly_take l m k hk).2]
  exact partly_keep _ h0 (by rw [partly_len]; exact ha) hv

/-! ### What is refused -/
theorem check_some {l : List Step} {hs m : List Int} (h : checkI rs n l hs = some m) : partly rs (startI n) l = (m, l.length) ∧ heldB rs m hs = true := by
  unfold checkI at h
  split at h
  · rename_i hc
    cases h
    exact ⟨Prod.ext rfl hc.1, hc.2.1⟩
  · cases h
def headOf (rs : List Rule) (i : Int) : Int := ((rs[i.toNat]?).map (·.head)).getD 0
theorem heldL_heads {m : List Int} : ∀ (l heads : List Int) {out : List Int}, heldL rs m heads l = some out → out = heads ++ l.map (headOf rs)
  | [], heads, out, h => by
    simp only [heldL, Option.some.injEq] at h
    simp [h]
  | i :: l, heads, out, h => by
    rw [heldL] at h
    split at h
    · cases h
    · split at h
      · rename_i r hr
        split at h
        · rw [heldL_heads l _ h]
          simp [headOf, hr]
        · cases h
      · cases h
theorem heldL_facts {m : List Int} {l out : List Int} (h : heldL rs m [] l = some out) : out = l.map (headOf rs) ∧ out.Nodup ∧ ∀ x ∈ out, valI m x = 1 := by
  refine ⟨by have := heldL_heads l [] h; simpa using this, ?_⟩
  refine heldL_inv (fun hd => hd.Nodup ∧ ∀ x ∈ hd, valI m x = 1) (fun hd r hr hs hq => ?_) l [] h ⟨by simp, by simp⟩
  obtain ⟨h1, h2, _, _, _⟩ := supB_iff.1 hs
  refine ⟨nodup_snoc hq.1 h2, fun x hx => ?_⟩
  rcases List.mem_append.1 hx with hx | hx
  · exact hq.2 x hx
  · have : x = r.head := by simpa using hx
    rw [this]; exact h1
theorem held_all {m hs : List Int} (h : heldB rs m hs = true) : ∃ out, heldL rs m [] hs = some out ∧ ∀ a : Nat, a < m.length → m.getD a 0 = 1 → (a : Int) ∈ out := by
  unfold heldB at h
  split at h
  · rename_i out ho
    refine ⟨out, ho, fun a ha hv => ?_⟩
    have := List.all_eq_true.1 h a (List.mem_range.2 ha)
    rw [hv] at this
    simpa using this
  · cases h
theorem held_miss {m hs : List Int} {a : Nat} (ha : a < m.length) (hv : m.getD a 0 = 1) (hn : ¬ (a : Int) ∈ hs.map (headOf rs)) : heldB rs m hs = false := by
  rw [Bool.eq_false_iff]
  intro h
  obtain ⟨out, ho, hall⟩ := held_all h
  have := hall a ha hv
  rw [(heldL_facts ho).1] at this
  exact hn this
theorem heldL_range {m : List Int} {l out : List Int} (hr : ∀ r ∈ rs, RuleOk m.length r) (h : heldL rs m [] l = some out) : ∀ x ∈ out, 0 ≤ x ∧ x < m.length :=
  heldL_inv (fun hd => ∀ x ∈ hd, 0 ≤ x ∧ x < m.length) (fun hd r hr' _ hq x hx => by
    rcases List.mem_append.1 hx with hx | hx
    · exact hq x hx
    · have : x = r.head := by simpa using hx
      rw [this]; exact (hr r hr').1) l [] h (by simp)
theorem heldC_eq {m l : List Int} (hr : ∀ r ∈ rs, RuleOk m.length r) : heldC rs m l = heldB rs m l := by
  unfold heldC heldB
  cases ho : heldL rs m [] l with
  | none => rfl
  | some heads =>
    simp only []
    obtain ⟨h1, h2, h3⟩ := heldL_facts ho
    have h4 := heldL_range hr ho
    have hsub : ∀ x ∈ heads, x ∈ openL m := fun x hx => by
      obtain ⟨a, rfl⟩ := Int.eq_ofNat_of_zero_le (h4 x hx).1
      have := (h4 _ hx).2
      exact (openL_mem (by omega)).2 (by rw [← valI_nat]; exact h3 _ hx)
    have hle := nodup_sub h2 hsub
    rw [openL_len] at hle
    rw [Bool.eq_iff_iff, decide_eq_true_eq, List.all_eq_true]
    constructor
    · intro hc a ha
      have ham := List.mem_range.1 ha
      by_cases hv : m.getD a 0 = 1
      · by_cases hin : (a : Int) ∈ heads
        · simp [hin]
        · exfalso
          have := nodup_sub (l := (a : Int) :: heads) (O := openL m) (List.nodup_cons.2 ⟨hin, h2⟩) (fun x hx => by
            rcases List.mem_cons.1 hx with rfl | hx
            · exact (openL_mem ham).2 hv
            · exact hsub x hx)
          rw [openL_len] at this
          simp at this
          omega
      · rw [decide_eq_false hv]
        rfl
    · intro hall
      have hnd : (openL m).Nodup := (pickI_sorted _ _).imp fun hh => by omega
      have := nodup_sub hnd (O := heads) fun x hx => by
        obtain ⟨i, hi, hp, rfl⟩ := mem_pickI.1 hx
        have h5 := hall i (List.mem_range.2 hi)
        rw [hp] at h5
        simpa using h5
      rw [openL_len] at this
      omega
theorem strict1 (h : PrOk n rs) {l : List Step} {hs m : List Int} (hc : checkI rs n l hs = some m) {k : Nat} (hk : k < hs.length) : checkI rs n l (hs.take k ++ hs.drop (k + 1)) = none := by
  obtain ⟨h1, h2⟩ := check_some hc
  have hml : m.length = n := by
    have := partly_len (rs := rs) l (startI n)
    rw [h1] at this
    simpa [startI] using this
  obtain ⟨out, ho, _⟩ := held_all h2
  obtain ⟨h3, h4, h5⟩ := heldL_facts ho
  have hsplit : hs = hs.take k ++ hs[k] :: hs.drop (k + 1) := by rw [List.getElem_cons_drop, List.take_append_drop]
  have hin : headOf rs hs[k] ∈ out := by rw [h3]; exact List.mem_map.2 ⟨_, List.getElem_mem hk, rfl⟩
  have hrg := heldL_range (fun r hr => by rw [hml]; exact (h.rule r hr).1) ho _ hin
  obtain ⟨a, ha⟩ := Int.eq_ofNat_of_zero_le hrg.1
  have hva := h5 _ hin
  rw [ha, valI_nat] at hva
  have hbad : heldB rs m (hs.take k ++ hs.drop (k + 1)) = false := by
    refine held_miss (a := a) (by omega) hva ?_
    rw [← ha]
    rw [h3, hsplit, List.map_append, List.map_cons, List.nodup_append] at h4
    intro hin2
    rw [List.map_append, List.mem_append] at hin2
    rcases hin2 with hin2 | hin2
    · exact h4.2.2 _ hin2 _ (by simp) rfl
    · exact (List.nodup_cons.1 h4.2.1).1 hin2
  unfold checkI
  rw [h1, if_neg]
  rintro ⟨_, h6, _⟩
  rw [hbad] at h6
  cases h6
theorem strict2 {l : List Step} {hs m : List Int} (hc : checkI rs n l hs = some m) {k : Nat} (hk : k < hs.length) : checkI rs n l (hs ++ [hs[k]]) = none := by
  obtain ⟨h1, h2⟩ := check_some hc
  have hbad : heldB rs m (hs ++ [hs[k]]) = false := by
    rw [Bool.eq_false_iff]
    intro hb
    obtain ⟨out, ho, _⟩ := held_all hb
    obtain ⟨h3, h4, _⟩ := heldL_facts ho
    rw [h3, List.map_append, List.nodup_append] at h4
    exact h4.2.2 _ (List.mem_map.2 ⟨_, List.getElem_mem hk, rfl⟩) _ (by simp) rfl
  unfold checkI
  rw [h1, if_neg]
  rintro ⟨_, h6, _⟩
  rw [hbad] at h6
  cases h6
/-- Of all steps that were taken the atoms are told. -/
theorem partly_closed : ∀ (l : List Step) (m : List Int), (partly rs m l).2 = l.length → ∀ s ∈ l, ∀ a ∈ s.atoms, (0 ≤ a ∧ a < m.length) ∧ valI (partly rs m l).1 a ≠ 1
  | [], _, _, s, hs => by cases hs
  | t :: l, m, h, s, hs => by
    rw [partly] at h ⊢
    by_cases ht : stepOk rs m t = true
    · rw [if_pos ht] at h ⊢
      intro a ha
      rcases List.mem_cons.1 hs with rfl | hs
      · have h1 := (setOpen_iff.1 (stepOk_set ht)).1 a ha
        refine ⟨h1.1, ?_⟩
        have h2 : valI (tellI m s) a ≠ 1 := by
          rw [tell_val (stepOk_set ht) h1.1.1 h1.1.2, if_pos ha]
          split <;> omega
        show valI (partly rs (tellI m s) l).1 a ≠ 1
        rw [partly_keep l h1.1.1 (by rw [tellI_len]; exact h1.1.2) h2]
        exact h2
      · have := partly_closed l (tellI m t) (by simpa using h) s hs a ha
        rw [tellI_len] at this
        exact this
    · rw [if_neg ht] at h
      simp at h
theorem partly_nonempty : ∀ (l : List Step) (m : List Int), (partly rs m l).2 = l.length → ∀ s ∈ l, 0 < s.atoms.length
  | [], _, _, s, hs => by cases hs
  | t :: l, m, h, s, hs => by
    rw [partly] at h
    by_cases ht : stepOk rs m t = true
    · rw [if_pos ht] at h
      rcases List.mem_cons.1 hs with rfl | hs
      · exact (setOpen_iff.1 (stepOk_set ht)).2.2
      · exact partly_nonempty l (tellI m t) (by simpa using h) s hs
    · rw [if_neg ht] at h
      simp at h
theorem strict3 {l : List Step} {hs m : List Int} (hc : checkI rs n l hs = some m) {k : Nat} (hk : k < l.length) : checkI rs n (l ++ [l[k]]) hs = none := by
  obtain ⟨h1, _⟩ := check_some hc
  have hf : (partly rs (startI n) l).2 = l.length := by rw [h1]
  have hbad : stepOk rs (partly rs (startI n) l).1 l[k] = false := by
    refine stepOk_noset ?_
    rw [Bool.eq_false_iff]
    intro hset
    obtain ⟨x, hx⟩ := List.exists_mem_of_length_pos (partly_nonempty l (startI n) hf _ (List.getElem_mem hk))
    exact (partly_closed l (startI n) hf _ (List.getElem_mem hk) x hx).2 ((setOpen_iff.1 hset).1 x hx).2
  have := partly_snoc (rs := rs) l (startI n) l[k] hf
  rw [hbad, if_neg (by decide)] at this
  unfold checkI
  rw [this, if_neg]
  rintro ⟨h6, _, _⟩
  simp at h6
theorem strict4 {l : List Step} {hs m : List Int} (hc : checkI rs n l hs = some m) (hl : 0 < l.length) : checkI rs n (l.take (l.length - 1)) hs = none := by
  obtain ⟨h1, h2⟩ := check_some hc
  have hf : (partly rs (startI n) l).2 = l.length := by rw [h1]
  have hml : m.length = n := by
    have := partly_len (rs := rs) l (startI n)
    rw [h1] at this
    simpa [startI] using this
  have hk : l.length - 1 < l.length := by omega
  have ht := partly_take (rs := rs) l (startI n) (l.length - 1) (by omega)
  have hlast : l.drop (l.length - 1) = [l[l.length - 1]] := by
    rw [List.drop_eq_getElem_cons hk, List.drop_eq_nil_of_le (by omega)]
  have hm2 := ht.2
  rw [hlast] at hm2
  obtain ⟨x, hx⟩ := List.exists_mem_of_length_pos (partly_nonempty l (startI n) hf _ (List.getElem_mem hk))
  have hxc := partly_closed l (startI n) hf _ (List.getElem_mem hk) x hx
  rw [h1] at hxc hm2
  obtain ⟨a, rfl⟩ := Int.eq_ofNat_of_zero_le hxc.1.1
  have hlen0 : (partly rs (startI n) (l.take (l.length - 1))).1.length = n := by rw [partly_len]; simp [startI]
  have han : a < n := by have := hxc.1.2; simp [startI] at this; omega
  -- it is open ahead of the last step, and no head
  have hopen : valI (partly rs (startI n) (l.take (l.length - 1))).1 (a : Int) = 1 := by
    refine Classical.byContradiction fun hne => ?_
    have hstep : stepOk rs (partly rs (startI n) (l.take (l.length - 1))).1 l[l.length - 1] = true := by
      refine Classical.byContradiction fun hb => ?_
      have := partly_snoc (rs := rs) (l.take (l.length - 1)) (startI n) l[l.length - 1] (by rw [ht.1]; simp)
      rw [if_neg hb, ← List.take_succ_eq_append_getElem hk, show l.length - 1 + 1 = l.length from by omega, List.take_length, h1] at this
      have := congrArg Prod.snd this
      simp at this
      omega
    exact hne ((setOpen_iff.1 (stepOk_set hstep)).1 _ hx).2
  obtain ⟨out, ho, _⟩ := held_all h2
  obtain ⟨h3, _, h5⟩ := heldL_facts ho
  have hbad : heldB rs (partly rs (startI n) (l.take (l.length - 1))).1 hs = false := by
    refine held_miss (a := a) (by omega) (by rw [← valI_nat]; exact hopen) ?_
    rw [← h3]
    exact fun hin => hxc.2 (h5 _ hin)
  unfold checkI
  rw [if_neg]
  rintro ⟨_, h6, _⟩
  rw [hbad] at h6
  cases h6

/-! ### Proofs without steps; lies -/
theorem start_open {a : Nat} (ha : a < n) : (startI n).getD a 0 = 1 := by simp [startI, ha]
theorem none_taken (h : PrOk n rs) : (checkI rs n [] (holdsI n rs (startI n))).isSome = decide (modelI n rs = startI n) := by
  by_cases hm : modelI n rs = startI n
  · rw [decide_eq_true hm]
    have hlow : ∀ a : Nat, a < n → ¬ atB (lowB n rs) (a : Int) = true := fun a ha hh => by
      have h1 := model_at (n := n) (rs := rs) ha
      rw [if_pos hh, hm, start_open ha] at h1
      omega
    have hhigh : ∀ a : Nat, a < n → atB (gam n rs (lowB n rs)) (a : Int) = true := fun a ha => by
      have h1 := model_at (n := n) (rs := rs) ha
      rw [if_neg (hlow a ha), hm, start_open ha] at h1
      refine Classical.byContradiction fun hb => ?_
      rw [if_neg hb] at h1
      omega
    have hheld : heldB rs (startI n) (holdsI n rs (startI n)) = true := by
      refine holds_held (by simp [startI]) (fun a h0 ha => .inr (.inl (startI_val h0 ha))) (fun r hr => (h.rule r hr).1) (fun a ha _ => ?_)
      refine Der.mono (fun r hr => ?_) (((gam_is h (lowB n rs)).iff (h.filter _) ha).1 (hhigh a ha))
      obtain ⟨h1, _⟩ := List.mem_filter.1 hr
      have hrk := (h.rule r h1).1
      refine List.mem_filter.2 ⟨h1, ?_⟩
      rw [fails_has (by simp [startI]) hrk, hasB_false.2 (fun x hx => by rw [startI_val (hrk.2.1 x hx).1 (hrk.2.1 x hx).2]; omega), hasB_false.2 (fun x hx => by rw [startI_val (hrk.2.2 x hx).1 (hrk.2.2 x hx).2]; omega)]
      rfl
    have hleft : leftB rs (startI n) = false := by
      unfold leftB
      rw [List.any_eq_false]
      intro r hr hb
      rw [Bool.and_eq_true, firesB, Bool.and_eq_true, areB_iff, areB_iff] at hb
      have hrk := (h.rule r hr).1
      have hpos : r.pos = [] := List.eq_nil_iff_forall_not_mem.2 fun p hp => by
        have := hb.2.1 p hp
        rw [startI_val (hrk.2.1 p hp).1 (hrk.2.1 p hp).2] at this
        omega
      have hneg : r.neg = [] := List.eq_nil_iff_forall_not_mem.2 fun p hp => by
        have := hb.2.2 p hp
        rw [startI_val (hrk.2.2 p hp).1 (hrk.2.2 p hp).2] at this
        omega
      have key := gam_mk h (so := gam n rs (lowB n rs)) hr (by simp [hneg]) (by simp [hpos])
      rw [lowB_fix h] at key
      obtain ⟨a, ha⟩ := Int.eq_ofNat_of_zero_le hrk.1.1
      have han : a < n := by have := hrk.1.2; omega
      rw [ha] at key
      exact hlow a han key
    unfold checkI
    rw [if_pos ⟨rfl, hheld, hleft⟩]
    rfl
  · rw [decide_eq_false hm]
    cases hc : checkI rs n [] (holdsI n rs (startI n)) with
    | none => rfl
    | some m =>
      have h1 := check_model h hc
      have h2 := (check_some hc).1
      have h3 : m = startI n := (congrArg Prod.fst h2).symm
      exact absurd (by rw [← h1, h3]) hm
theorem all_open {m : List Int} (hm : m.length = n) : (m.all fun v => decide (v = 1)) = decide (m = startI n) := by
  rw [Bool.eq_iff_iff, List.all_eq_true, decide_eq_true_eq]
  constructor
  · intro h
    refine List.ext_getElem (by simp [startI, hm]) fun i h1 h2 => ?_
    have := h _ (List.getElem_mem h1)
    simpa [startI] using this
  · intro h x hx
    rw [h] at hx
    rw [List.eq_of_mem_replicate hx]
    rfl
theorem lies_set (h : PrOk n rs) {l : List Int} (hk : (partly rs (startI n) [⟨-1, l⟩]).2 = 1) {a : Int} (ha : a ∈ l) : (0 ≤ a ∧ a < n) ∧ (modelI n rs).getD a.toNat 0 = 0 := by
  have hs : stepOk rs (startI n) ⟨-1, l⟩ = true := by
    refine Classical.byContradiction fun hb => ?_
    rw [partly, if_neg hb] at hk
    cases hk
  have h1 := (setOpen_iff.1 (stepOk_set hs)).1 a ha
  have hr : 0 ≤ a ∧ a < n := by simpa [startI] using h1.1
  refine ⟨hr, ?_⟩
  have hsd := Sound.start.step h hs
  obtain ⟨k, rfl⟩ := Int.eq_ofNat_of_zero_le hr.1
  have hv : valI (tellI (startI n) ⟨-1, l⟩) (k : Int) = 0 := by
    rw [tell_val (stepOk_set hs) hr.1 (by simpa [startI] using hr.2), if_pos ha]
    rfl
  have := sound_model h hsd (a := k) (by omega) (by rw [← valI_nat, hv]; omega)
  rw [← valI_nat, hv] at this
  rw [Int.toNat_natCast]
  exact this.symm
theorem lies_rule (h : PrOk n rs) {k : Nat} (hk : k < rs.length) : (partly rs (startI n) [⟨(k : Int), [rs[k].head]⟩]).2 = (if rs[k].pos.length + rs[k].neg.length = 0 then 1 else 0) ∧ (rs[k].pos.length + rs[k].neg.length = 0 → (modelI n rs).getD rs[k].head.toNat 0 = 2) := by
  have hrk := (h.rule _ (List.getElem_mem hk)).1
  have hset : setOpen (startI n) [rs[k].head] = true := setOpen_iff.2 ⟨fun a ha => by
    have : a = rs[k].head := by simpa using ha
    subst this
    exact ⟨by simpa [startI] using hrk.1, startI_val hrk.1.1 hrk.1.2⟩, by simp, by simp⟩
  have hby := stepOk_byrule (rs := rs) (m := startI n) (s := ⟨(k : Int), [rs[k].head]⟩) rfl hk
  have hfire : firesB (startI n) rs[k] = decide (rs[k].pos.length + rs[k].neg.length = 0) := by
    rw [Bool.eq_iff_iff, firesB, Bool.and_eq_true, areB_iff, areB_iff, decide_eq_true_eq]
    constructor
    · rintro ⟨g1, g2⟩
      have hpos : rs[k].pos = [] := List.eq_nil_iff_forall_not_mem.2 fun p hp => by
        have := g1 p hp
        rw [startI_val (hrk.2.1 p hp).1 (hrk.2.1 p hp).2] at this
        omega
      have hneg : rs[k].neg = [] := List.eq_nil_iff_forall_not_mem.2 fun p hp => by
        have := g2 p hp
        rw [startI_val (hrk.2.2 p hp).1 (hrk.2.2 p hp).2] at this
        omega
      simp [hpos, hneg]
    · intro h0
      have hpos : rs[k].pos = [] := List.eq_nil_of_length_eq_zero (by omega)
      have hneg : rs[k].neg = [] := List.eq_nil_of_length_eq_zero (by omega)
      simp [hpos, hneg]
  have hok : stepOk rs (startI n) ⟨(k : Int), [rs[k].head]⟩ = decide (rs[k].pos.length + rs[k].neg.length = 0) := by
    rw [hby, hset, hfire]
    simp
  by_cases h0 : rs[k].pos.length + rs[k].neg.length = 0
  · rw [decide_eq_true h0] at hok
    refine ⟨by rw [partly, if_pos hok, if_pos h0]; rfl, fun _ => ?_⟩
    have hsd := Sound.start.step h hok
    obtain ⟨a, ha⟩ := Int.eq_ofNat_of_zero_le hrk.1.1
    have han : a < n := by have := hrk.1.2; omega
    have hv : valI (tellI (startI n) ⟨(k : Int), [rs[k].head]⟩) (a : Int) = 2 := by
      rw [← ha, tell_val hset hrk.1.1 (by simpa [startI] using hrk.1.2), if_pos (by simp), if_pos (by show (0 : Int) ≤ k; omega)]
    have := sound_model h hsd (a := a) han (by rw [← valI_nat, hv]; omega)
    rw [← valI_nat, hv] at this
    rw [ha, Int.toNat_natCast]
    exact this.symm
  · rw [decide_eq_false h0] at hok
    refine ⟨by rw [partly, if_neg (by rw [hok]; decide), if_neg h0], fun hh => absurd hh h0⟩
end
end Go.Proofs.Ytmkgechdfimfnaa.Pl
