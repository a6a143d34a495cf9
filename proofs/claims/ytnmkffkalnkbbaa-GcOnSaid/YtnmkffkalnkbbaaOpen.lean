/-
  The kit's sixth text: how arguments are opened to what a walk reads, and how a law's row is closed behind it.
  It speaks of any program. No condition.
-/
import Derived.Test.YtnmkffkalnkbbaaRead
import Derived.ProofKit
import Derived.OpenShut
import Derived.Deep.Slices
import Derived.ReadAgain
namespace Go.Proofs.Ytnmkffkalnkbbaa.K
open Go Go.RowKit Go.ChangeShapes Go.WideShapes

/-- Cells of a type that can be read at all read as E says. -/
def OpE {α : Type} (P : Program) (w : World) (t : TypeId) (sz : Nat) (E : ER α) : Prop :=
  ∀ (H : Type) (enc : TypeId × Value → H) (n : Nat) (cs : List Value) (x : DataW H × List MemPlace), DataW.trod enc P w 0 (fun _ => true) true n t cs = some x → ∃ a, cs.length = sz ∧ E (fullG w) cs a
section
variable {α β γ : Type} {P : Program} {w : World} {t : TypeId}
theorem ope_int (h : P.underlying t = some (.int .i64)) : OpE P w t 1 EInt := fun H enc n cs x hx => by
  obtain ⟨m, rfl, _, hw⟩ := DataW.trod_int h hx
  have hm : -9223372036854775808 ≤ m ∧ m ≤ 9223372036854775807 := by simpa [Lit.wf, IntKind.min, IntKind.max, IntKind.signed, IntKind.bits] using hw
  exact ⟨m, rfl, rfl, hm⟩
theorem ope_bool (h : P.underlying t = some .bool) : OpE P w t 1 EBool := fun H enc n cs x hx => by
  obtain ⟨b, rfl, _⟩ := DataW.trod_bool h hx
  exact ⟨b, rfl, rfl⟩
def EStr : ER ByteArray := fun _ cs s => cs = [.string s] ∧ s.size ≤ maxLen
theorem ope_str (h : P.underlying t = some .string) : OpE P w t 1 EStr := fun H enc n cs x hx => by
  obtain ⟨s, rfl, _, hs⟩ := DataW.trod_string h hx
  exact ⟨s, rfl, rfl, hs⟩
theorem exists_list {Q : Nat → α → Prop} : ∀ n : Nat, (∀ i, i < n → ∃ a, Q i a) → ∃ l : List α, l.length = n ∧ ∀ (i : Nat) (a : α), l[i]? = some a → Q i a
  | 0, _ => ⟨[], rfl, fun i a h => by simp at h⟩
  | n + 1, h => by
    obtain ⟨l, hl, hq⟩ := exists_list n fun i hi => h i (by omega)
    obtain ⟨a, ha⟩ := h n (by omega)
    refine ⟨l ++ [a], by simp [hl], fun i b hb => ?_⟩
    by_cases hi : i < l.length
    · rw [List.getElem?_append_left hi] at hb
      exact hq i b hb
    · have hlt := (List.getElem?_eq_some_iff.1 hb).1
      simp at hlt
      have : i = l.length := by omega
      subst this
      simp at hb
      subst hb
      rw [hl]
      exact ha
theorem ope_slice {e : TypeId} {sz : Nat} {E : ER α} (h : P.underlying t = some (.slice e)) (hc : P.cellsOf e = sz) (hE : OpE P w e sz E) : OpE P w t 1 (ESl sz E) := fun H enc n cs x hx => by
  rcases Deep.open_slice h hx with ⟨rfl, _⟩ | ⟨a, len, cap, m, k, D, Pl, rfl, _, hl, hm, hmm, _, hi⟩
  · exact ⟨[], rfl, _, rfl, .nil _⟩
  · have hmc : m = cap := by simpa using hmm
    obtain ⟨l, hll, hq⟩ := exists_list (Q := fun i b => ∃ cs' : List Value, cs'.length = sz ∧ E (fullG w) cs' b ∧ ∀ (j : Nat) (u : Value), cs'[j]? = some u → gcell (fullG w) (elA (some a) (i * sz + j)) = some u) len fun i hil => by
      obtain ⟨cs', hcs, ht⟩ := hi i (by omega)
      obtain ⟨b, hb1, hb2⟩ := hE H enc k cs' _ ht
      obtain ⟨_, hcl, hat⟩ := World.cells?_some hcs
      refine ⟨b, cs', hb1, hb2, fun j u hu => ?_⟩
      have hj : j < cs'.length := (List.getElem?_eq_some_iff.1 hu).1
      have := hat j (by omega)
      rw [hc, hu] at this
      rw [gcell_full, elA_some, ← add_add']
      exact this
    refine ⟨l, rfl, _, rfl, some a, cap, by rw [hll], by omega, hm, fun i b hb => ?_⟩
    obtain ⟨cs', h1, h2, h3⟩ := hq i b hb
    exact ⟨rfl, cs', h1, h2, h3⟩
theorem part_of {H : Type} {enc : TypeId × Value → H} {fs : Array Field} {f : Field} {i n : Nat} {cs : List Value} {x : DataW H × List MemPlace} {E : ER α} (h : P.underlying t = some (.struct fs)) (hx : DataW.trod enc P w 0 (fun _ => true) true n t cs = some x) (hf : fs[i]? = some f) (hc : P.cellsOf f.type = 1) (hE : OpE P w f.type 1 E) :
    cs.length = P.cellsOf t ∧ ∃ v a, cs[f.offset]? = some v ∧ E (fullG w) [v] a := by
  obtain ⟨xs, m, _, _, hl, hxl, hg⟩ := DataW.trod_struct h hx
  have hi : i < fs.size := (Array.getElem?_eq_some_iff.1 hf).1
  have h1 := hg i f hf
  rw [List.getElem?_eq_getElem (by omega), hc] at h1
  obtain ⟨a, ha, hEa⟩ := hE H enc _ _ _ h1
  have hlen : f.offset < cs.length := by
    rw [List.length_take, List.length_drop] at ha
    omega
  refine ⟨hl, cs[f.offset], a, List.getElem?_eq_getElem hlen, ?_⟩
  rw [List.drop_eq_getElem_cons hlen] at hEa
  exact hEa
theorem struct2 {f g : Field} {E1 : ER α} {E2 : ER β} (h : P.underlying t = some (.struct #[f, g])) (hC : P.cellsOf t = 2) (ho : f.offset = 0 ∧ g.offset = 1) (hc : P.cellsOf f.type = 1 ∧ P.cellsOf g.type = 1) (h1 : OpE P w f.type 1 E1) (h2 : OpE P w g.type 1 E2) :
    OpE P w t 2 (fun G cs (x : α × β) => ∃ v u, cs = [v, u] ∧ E1 G [v] x.1 ∧ E2 G [u] x.2) := fun H enc n cs x hx => by
  obtain ⟨hl, v, a, hv, ha⟩ := part_of (f := f) (i := 0) h hx rfl hc.1 h1
  obtain ⟨_, u, b, hu, hb⟩ := part_of (f := g) (i := 1) h hx rfl hc.2 h2
  rw [hC] at hl
  rw [ho.1] at hv
  rw [ho.2] at hu
  match cs, hl with
  | [c0, c1], _ =>
    obtain rfl : c0 = v := by simpa using hv
    obtain rfl : c1 = u := by simpa using hu
    exact ⟨(a, b), rfl, c0, c1, rfl, ha, hb⟩
theorem struct3 {f g k : Field} {E1 : ER α} {E2 : ER β} {E3 : ER γ} (h : P.underlying t = some (.struct #[f, g, k])) (hC : P.cellsOf t = 3) (ho : f.offset = 0 ∧ g.offset = 1 ∧ k.offset = 2) (hc : P.cellsOf f.type = 1 ∧ P.cellsOf g.type = 1 ∧ P.cellsOf k.type = 1) (h1 : OpE P w f.type 1 E1) (h2 : OpE P w g.type 1 E2) (h3 : OpE P w k.type 1 E3) :
    OpE P w t 3 (fun G cs (x : α × β × γ) => ∃ v u s, cs = [v, u, s] ∧ E1 G [v] x.1 ∧ E2 G [u] x.2.1 ∧ E3 G [s] x.2.2) := fun H enc n cs x hx => by
  obtain ⟨hl, v, a, hv, ha⟩ := part_of (f := f) (i := 0) h hx rfl hc.1 h1
  obtain ⟨_, u, b, hu, hb⟩ := part_of (f := g) (i := 1) h hx rfl hc.2.1 h2
  obtain ⟨_, s, c, hs, hc'⟩ := part_of (f := k) (i := 2) h hx rfl hc.2.2 h3
  rw [hC] at hl
  rw [ho.1] at hv
  rw [ho.2.1] at hu
  rw [ho.2.2] at hs
  match cs, hl with
  | [c0, c1, c2], _ =>
    obtain rfl : c0 = v := by simpa using hv
    obtain rfl : c1 = u := by simpa using hu
    obtain rfl : c2 = s := by simpa using hs
    exact ⟨(a, b, c), rfl, c0, c1, c2, rfl, ha, hb, hc'⟩
/-- Another reading of the same cells. -/
theorem OpE.turn {sz : Nat} {E : ER α} {E' : ER β} (h : OpE P w t sz E) (hE : ∀ G cs a, E G cs a → ∃ b, E' G cs b) : OpE P w t sz E' := fun H enc n cs x hx => by
  obtain ⟨a, h1, h2⟩ := h H enc n cs x hx
  obtain ⟨b, hb⟩ := hE _ _ _ h2
  exact ⟨b, h1, hb⟩

/-! ### Arguments -/
variable {H : Type} {enc : TypeId × Value → H} {d : DataW H} {p : List MemPlace} {v : Value} {r : Reach} {base : Nat}
theorem arg_agg {fs : Array Field} {sz : Nat} {E : ER α} (h : P.underlying t = some (.struct fs)) (hv : Value.okWide P w r base t v) (hd : DataW.Trod enc P w 0 (fun _ => true) true t v d p) (hE : OpE P w t sz E) : ∃ (cs : List Value) (a : α), v = .agg cs.toArray ∧ E (fullG w) cs a := by
  obtain ⟨cs, rfl, _⟩ := okWide_struct h hv
  obtain ⟨fuel, hf⟩ := hd
  obtain ⟨a, _, ha⟩ := hE H enc fuel _ _ hf
  exact ⟨cs.toList, a, by simp, ha⟩
theorem arg_slice {e : TypeId} {sz : Nat} {E : ER α} (h : P.underlying t = some (.slice e)) (hv : Value.okWide P w r base t v) (hd : DataW.Trod enc P w 0 (fun _ => true) true t v d p) (hE : OpE P w t 1 (ESl sz E)) : ∃ l : List α, RSl sz E (fullG w) v l := by
  obtain ⟨oa, len, cap, rfl⟩ := okWide_slice h hv
  obtain ⟨fuel, hf⟩ := hd
  obtain ⟨a, _, u, hu, ha⟩ := hE H enc fuel _ _ hf
  obtain rfl : Value.slice oa len cap = u := by simpa [Value.cells] using hu
  exact ⟨a, ha⟩

/-! ### The end of a row -/
theorem trodAll_carry {w' : World} : ∀ {ts : List TypeId} {vs : List Value} {ds : List (DataW H)} {ps : List MemPlace} {sp : Nat → Bool}, DataW.TrodAll enc P w 0 sp true ts vs ds ps → (∀ p ∈ ps, w.sameAt w' p) → DataW.TrodAll enc P w' 0 sp true ts vs ds ps
  | [], [], [], _, _, h, _ => h
  | _ :: _, _ :: _, _ :: _, _, _, ⟨p, q, ⟨n, h1⟩, h2, e⟩, hs => ⟨p, q, ⟨n, DataW.trod_carry n _ _ _ h1 fun x hx => hs x (by rw [e]; exact List.mem_append_left _ hx)⟩, trodAll_carry h2 fun x hx => hs x (by rw [e]; exact List.mem_append_right _ hx), e⟩
theorem post_true {f : Func} {s : ChangeSpec} {W W' : World} {args : Array Value} {ds gs : List (DataW H)} {before : List MemPlace} {tb : TypeId} (hW : DataW.Whole enc P f.params.toList s.vars false W args.toList ds gs before)
    (K : Kids P (· < P.types.size)) (hz : ∀ t e, t < P.types.size → P.underlying t = some (.slice e) → 0 < P.cellsOf e) (hp : ∀ t ∈ f.params.toList, t < P.types.size) (hv : s.vars = []) (hres : f.resultTypes = #[tb]) (hb : P.underlying tb = some .bool)
    (h1 : (s.fn H (ds ++ gs)).results = [.lit (.bool true)]) (h2 : (s.fn H (ds ++ gs)).args = ds) (h3 : (s.fn H (ds ++ gs)).vars = []) (hB : Below W.heap.size W W') : s.post enc P f false true false false W args (.bool true) W' := by
  have hW' := hW
  obtain ⟨p, q, hA, hV, rfl, _, _⟩ := hW
  refine ⟨ds, gs, p ++ q, [], p, [], hW', ?_, ?_, ?_, hB.frame _, fun h => by cases h⟩
  · rw [h1, hres]
    exact trodAll_mk1 (shut_bool hb true)
  · rw [h2]
    have hold : ∀ x ∈ p, x.block < W.heap.size := fun x hx => hW'.lt x (List.mem_append_left _ hx)
    exact DataW.TrodAll.respare K hz hp (trodAll_carry hA fun x hx => hB.same (hold x hx)) (fun x hx => by simpa using hold x hx)
  · rw [h3, hv]
    rfl
end
end Go.Proofs.Ytnmkffkalnkbbaa.K
