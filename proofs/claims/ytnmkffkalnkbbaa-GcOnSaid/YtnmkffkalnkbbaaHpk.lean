/-
  Stores of several cells; parts of blocks that are read; results of which the first lies in a block; pairs of numbers that are compared.
  It speaks of any program. No condition.
-/
import Derived.Test.YtnmkffkalnkbbaaClr
import Derived.ChangeKeysEq
import Derived.Laws.Entries
namespace Go.Proofs.Ytnmkffkalnkbbaa.K
set_option linter.unusedVariables false
set_option linter.unusedSimpArgs false
open Go Go.RowKit
section
variable {P : Program} {N : Nat} {e : Env} {w w0 : World} {G0 G : GH} {M : List Ent} {d : Option Tmp} {ty : TypeId} {pos : String} {after : Array Edge} {g : Option (Nat × Bool)}
/-- Cells that are read out of a block, from a place on. -/
theorem op_loadBS {S : List Ent} {t : TypeId} {n i o b : Nat} {T : TypeId} {x : Operand} {cs vs : List Value} (ht : TAgg P t n) (hx : ev e x = some (.pointer (some ((⟨b, 0, none⟩ : Addr).add o)))) (hn : vs.length = n) (hM : S[i]? = some (.blk b T cs)) (hv : (cs.drop o).take n = vs) :
    OpL P N e (SS G0 w0 G S) ⟨d, .load t x, ty, pos, after, g⟩ (.agg vs.toArray) :=
  op_loadN ht hx hn fun w hw k u hk => (hw.bcell2 hM).trans (by
    rw [← hv, List.getElem?_take] at hk
    split at hk
    · rw [List.getElem?_drop] at hk
      exact hk
    · cases hk)
theorem run_storeN {t : TypeId} {n gb off : Nat} {T : TypeId} {cur : Array Value} {vs : List Value} (ht : TSz P t n) (hn : vs.length = n) (hg : w.heap[gb]? = some (.cells cur T (0, 0))) (hs : off + vs.length ≤ cur.size) (hv : ∀ v ∈ vs, v.oneCell' = true) :
    (Instr.storeAt t (.pointer (some ⟨gb, off, none⟩)) (.agg vs.toArray)).run P w = .ok () (w.setRow gb (cur.toList.take off ++ vs ++ cur.toList.drop (off + vs.length)).toArray) := by
  obtain ⟨i, hi, hz⟩ := ht
  have h := Go.run_storeCells_at (P := P) gb off T vs 0 cur w hg (by omega) hv
  simp only [Nat.add_zero] at h
  simp [Instr.storeAt, Instr.sureAddr, storeVar, sizeOf, typeInfo, hi, hz, Value.cells, hn] at *
  exact h
/-- Cells that are written into a block, from a place on. -/
theorem op_storeBN {t : TypeId} {x y : Operand} {b o j n : Nat} {T : TypeId} {cs vs : List Value} (hS : SS G0 w0 G M w) (ht : TSz P t n) (hj : M[j]? = some (.blk b T cs)) (hx : ev e x = some (.pointer (some ((⟨b, 0, none⟩ : Addr).add o)))) (hy : ev e y = some (.agg vs.toArray)) (hn : vs.length = n) (hl : o + n ≤ cs.length) (hv : ∀ v ∈ vs, v.oneCell' = true) :
    OpK P N e w ⟨d, .store t x y, ty, pos, after, g⟩ (fun _ w' => SS G0 w0 G (M.set j (.blk b T (cs.take o ++ vs ++ cs.drop (o + n)))) w') :=
  opk_skip fun a ha => by
    have hb : w.heap[b]? = some (.cells cs.toArray T (0, 0)) := hS.own _ (List.mem_of_getElem? hj)
    rw [show ((⟨b, 0, none⟩ : Addr).add o) = ⟨b, o, none⟩ from by rw [Addr.add_lit]; simp] at hx
    have h := run_storeN (off := o) ht hn hb (by simp; omega) hv
    simp only at h
    rw [hn] at h
    refine ⟨_, by simp [execOp, ha.ev hx, ha.ev hy, h]; rfl, ?_⟩
    refine hS.turn hj (fun q _ hne => setRow_other w b q _ (fun hh => hne (by simp [Ent.fp, hh]))) (by simp) rfl rfl rfl ?_ (fun b' hb' => .inl hb')
    have := setRow_heap w b cs.toArray (cs.take o ++ vs ++ cs.drop (o + n)).toArray T (0, 0) hb
    simpa [Ent.sat] using this
/-- Cells that are written into a row, from a place on. -/
theorem op_storeRN {t : TypeId} {x y : Operand} {j n k m c sz : Nat} {oa : Option Addr} {T : TypeId} {xs vs : List Value} (hS : SS G0 w0 G M w) (ht : TSz P t n) (hj : M[j]? = some (.row oa m c T sz xs)) (hx : ev e x = some (.pointer (some (elA oa k)))) (hy : ev e y = some (.agg vs.toArray)) (hn : vs.length = n) (hl : k + n ≤ xs.length) (hn0 : 0 < n) (hv : ∀ v ∈ vs, v.oneCell' = true) :
    OpK P N e w ⟨d, .store t x y, ty, pos, after, g⟩ (fun _ w' => SS G0 w0 G (M.set j (.row oa m c T sz (xs.take k ++ vs ++ xs.drop (k + n)))) w') :=
  opk_skip fun a ha => by
    have hr : RowIn w oa m c T sz xs := hS.own _ (List.mem_of_getElem? hj)
    obtain ⟨hxl, hmc, hcm, hrow⟩ := hr
    rcases hrow with ⟨rfl, rfl⟩ | ⟨gb, off, cur, rfl, hg, hcs, hcell⟩
    · have : m = 0 := by omega
      subst this
      simp at hxl
      subst hxl
      simp at hl
      omega
    · have hle : xs.length ≤ c * sz := by rw [hxl]; exact Nat.mul_le_mul_right _ hmc
      rw [elA_some, Addr.add_lit] at hx
      have h := run_storeN (off := off + k) ht hn hg (by omega) hv
      rw [hn] at h
      refine ⟨w.setRow gb (cur.toList.take (off + k) ++ vs ++ cur.toList.drop (off + k + n)).toArray, by simp [execOp, ha.ev hx, ha.ev hy, h], hS.turn hj (fun q _ hne => setRow_other w gb q _ (fun hh => hne (by simp [Ent.fp, hh]))) (by simp) rfl rfl rfl ?_ (fun b' hb' => .inl hb')⟩
      refine ⟨by simp; omega, hmc, hcm, .inr ⟨gb, off, _, rfl, setRow_heap w gb cur _ T _ hg, by simp; omega, fun q u hq => ?_⟩⟩
      rw [List.getElem?_toArray]
      have htl : (cur.toList.take (off + k)).length = off + k := by simp; omega
      have hkl : (xs.take k).length = k := by simp; omega
      by_cases hq1 : q < k
      · rw [List.append_assoc, List.getElem?_append_left (by omega), List.getElem?_take, if_pos hq1] at hq
        rw [List.append_assoc, List.getElem?_append_left (by omega), List.getElem?_take, if_pos (by omega)]
        simpa using hcell q u hq
      · rw [List.append_assoc, List.getElem?_append_right (by omega), hkl] at hq
        rw [List.append_assoc, List.getElem?_append_right (by omega), htl]
        by_cases hq2 : q - k < vs.length
        · rw [List.getElem?_append_left hq2] at hq
          rw [List.getElem?_append_left (by omega), show off + q - (off + k) = q - k from by omega]
          exact hq
        · rw [List.getElem?_append_right (by omega), List.getElem?_drop] at hq
          rw [List.getElem?_append_right (by omega), List.getElem?_drop]
          have := hcell _ u hq
          rw [show off + k + n + (off + q - (off + k) - vs.length) = off + (k + n + (q - k - vs.length)) from by omega]
          simpa using this
/-- A cell of an element. -/
theorem op_storeRF {t : TypeId} {x y : Operand} {j i f n c sz : Nat} {oa : Option Addr} {T : TypeId} {xs : List Value} {v : Value} (hS : SS G0 w0 G M w) (ht : TSz P t 1) (hj : M[j]? = some (.row oa n c T sz xs)) (hx : ev e x = some (.pointer (some ((elA oa i).add f)))) (hy : ev e y = some v) (hv : v.oneCell' = true) (hk : i + f < xs.length) :
    OpK P N e w ⟨d, .store t x y, ty, pos, after, g⟩ (fun _ w' => SS G0 w0 G (M.set j (.row oa n c T sz (xs.set (i + f) v))) w') :=
  op_storeR (k := i + f) hS ht hj (by rw [elA_add] at hx; exact hx) hy hv hk
theorem SS.rcellF (h : SS G0 w0 G M w) {j : Nat} {oa : Option Addr} {n c : Nat} {T : TypeId} {sz : Nat} {xs : List Value} (hj : M[j]? = some (.row oa n c T sz xs)) {i f : Nat} {u : Value} (hk : xs[i + f]? = some u) : w.cell? ((elA oa i).add f) = some u := by
  rw [elA_add]
  exact h.rcell hj hk
/-! ### Several results, the first of which lies in a block -/
section
variable {fn : Func} {R : Ending → World → Prop}
theorem run_loadVarN {ty : TypeId} {n : Nat} {p : Addr} {cs : List Value} (ht : TAgg P ty n) (hn : cs.length = n) (hc : ∀ (k : Nat) (u : Value), cs[k]? = some u → w.cell? (p.add k) = some u) : (loadVar ty p).run P w = .ok (.agg cs.toArray) w := by
  obtain ⟨⟨dd, hu, hd⟩, i, hi, hs⟩ := ht
  have hag : (isAgg ty).run P w = .ok true w := by
    unfold isAgg
    simp only [Sem.run_bind, run_underlying hu, Result.andThen_ok]
    cases dd <;> first | rfl | cases hd
  have hl := run_loadCells_list (P := P) w p cs hc
  subst hn
  simp [loadVar, sizeOf, typeInfo, hag, hi, hs, hl]
theorem retN2 {t u : Tmp} {ty : TypeId} {n : Nat} {p : Addr} {cs : List Value} {x : Value} (hr : fn.results = #[.cell t ty, .tmp u]) (ht : TAgg P ty n) (hv : look e t = some (.pointer (some p))) (hx : look e u = some x) (hn : cs.length = n) (hc : ∀ (k : Nat) (u : Value), cs[k]? = some u → w.cell? (p.add k) = some u) (hR : R (.returned (.tuple #[.agg cs.toArray, x])) w) : PQ N e w (bodyPost P fn R) .ret := fun a ha => by
  refine ⟨ha.defers, _, ?_, hR⟩
  have h1 := ha.cells t _ hv
  have h2 := ha.cells u _ hx
  simp [results, hr, h1, h2, asAddr, run_loadVarN ht hn hc]
theorem retN3 {t u s : Tmp} {ty : TypeId} {n : Nat} {p : Addr} {cs : List Value} {x y : Value} (hr : fn.results = #[.cell t ty, .tmp u, .tmp s]) (ht : TAgg P ty n) (hv : look e t = some (.pointer (some p))) (hx : look e u = some x) (hy : look e s = some y) (hn : cs.length = n) (hc : ∀ (k : Nat) (u : Value), cs[k]? = some u → w.cell? (p.add k) = some u) (hR : R (.returned (.tuple #[.agg cs.toArray, x, y])) w) : PQ N e w (bodyPost P fn R) .ret := fun a ha => by
  refine ⟨ha.defers, _, ?_, hR⟩
  have h1 := ha.cells t _ hv
  have h2 := ha.cells u _ hx
  have h3 := ha.cells s _ hy
  simp [results, hr, h1, h2, h3, asAddr, run_loadVarN ht hn hc]
theorem retN4 {t u s r : Tmp} {ty : TypeId} {n : Nat} {p : Addr} {cs : List Value} {x y z : Value} (hr : fn.results = #[.cell t ty, .tmp u, .tmp s, .tmp r]) (ht : TAgg P ty n) (hv : look e t = some (.pointer (some p))) (hx : look e u = some x) (hy : look e s = some y) (hz : look e r = some z) (hn : cs.length = n) (hc : ∀ (k : Nat) (u : Value), cs[k]? = some u → w.cell? (p.add k) = some u) (hR : R (.returned (.tuple #[.agg cs.toArray, x, y, z])) w) : PQ N e w (bodyPost P fn R) .ret := fun a ha => by
  refine ⟨ha.defers, _, ?_, hR⟩
  have h1 := ha.cells t _ hv
  have h2 := ha.cells u _ hx
  have h3 := ha.cells s _ hy
  have h4 := ha.cells r _ hz
  simp [results, hr, h1, h2, h3, h4, asAddr, run_loadVarN ht hn hc]
end
/-! ### Pairs of numbers -/
structure TPair (P : Program) (t : TypeId) : Prop where
  und : ∃ el i, P.underlying t = some (.array 2 el) ∧ P.info? el = some i ∧ P.cellsOf el = 1 ∧ P.underlying el = some (.int .i64)
  guard : P.eqGuardType P.depth t = false
theorem run_eqPair {t : TypeId} (ht : TPair P t) {a b a' b' : Int} (w : World) : (Op.equalIn 10000 t (.agg #[.int .i64 a, .int .i64 b]) (.agg #[.int .i64 a', .int .i64 b'])).run P w = .ok (decide (a = a') && decide (b = b')) w := by
  obtain ⟨el, i, hu, hi, hc, he⟩ := ht.und
  rw [run_equalIn_array w 9999 _ _ hu hi, hc]
  have p1 : ∀ (v u : Value), (part el #[v, u] (0 * 1)).run P w = .ok v w := fun v u => run_part1 he rfl rfl
  have p2 : ∀ (v u : Value), (part el #[v, u] (1 * 1)).run P w = .ok u w := fun v u => run_part1 he rfl rfl
  have e1 : ∀ m n, (Op.equalIn 9999 el (.int .i64 m) (.int .i64 n)).run P w = .ok (m == n) w := fun m n => run_equalIn_int (P := P) w 9998 el .i64 .i64 m n he
  rw [show List.range 2 = [0, 1] from rfl]
  simp only [Op.eqItems, Sem.run_bind, p1, p2, e1, Result.andThen_ok]
  by_cases h1 : (a == a') = true
  · simp only [h1, Bool.not_true, Bool.false_eq_true, if_false, Sem.run_bind, p2, e1, Result.andThen_ok]
    by_cases h2 : (b == b') = true
    · simp [h2, eq_of_beq h1, eq_of_beq h2]
    · have h2' : ¬ b = b' := by simpa using h2
      simp [h2, h2', eq_of_beq h1]
  · have h1' : ¬ a = a' := by simpa using h1
    simp [h1, h1']
theorem op_eqlP {t t' : TypeId} {x y : Operand} {a b a' b' : Int} (ht : TPair P t) (hx : ev e x = some (.agg #[.int .i64 a, .int .i64 b])) (hy : ev e y = some (.agg #[.int .i64 a', .int .i64 b'])) : OpP P N e ⟨d, .binOp .eql t x y t', ty, pos, after, g⟩ (.bool (decide (a = a') && decide (b = b'))) := fun ac ha w => by
  simp [execOp, ha.ev hx, ha.ev hy, run_eqGuard_agg (P := P) w .eql t x y _ _ ht.guard, run_eql_struct, run_eqPair ht w]
theorem op_shrI {k yk : IntKind} {t t' : TypeId} {x y : Operand} {m n : Int} (hx : ev e x = some (.int k m)) (hy : ev e y = some (.int yk n)) (h0 : 0 ≤ n) (h1 : n ≤ k.bits) : OpP P N e ⟨d, .binOp .shr t x y t', ty, pos, after, g⟩ (.int k (m / 2 ^ n.toNat)) := fun a ha w => by
  have := shift_shr k yk m n h0 h1
  simp only [execOp, eqGuard, ha.ev hx, ha.ev hy, binOp_shr, this]
  rfl
end
theorem pair_of {P : Program} {t el : TypeId} (hu : P.underlying t = some (.array 2 el)) (hi : (P.info? el).isSome = true) (hc : P.cellsOf el = 1) (he : P.underlying el = some (.int .i64)) (hg : P.eqGuardType P.depth t = false) : TPair P t := by
  obtain ⟨i, hi⟩ := Option.isSome_iff_exists.1 hi
  exact ⟨⟨el, i, hu, hi, hc, he⟩, hg⟩
/-- A load that leans on what is known now. -/
theorem OpL.keep {P : Program} {N : Nat} {e : Env} {w : World} {S : World → Prop} {o : Oper} {v : Value} (h : OpL P N e S o v) (hS : S w) : OpK P N e w o (fun u w' => u = v ∧ S w') :=
  (h.opk hS).mono fun _ _ ⟨h1, h2⟩ => ⟨h1, h2 ▸ hS⟩
/-- The first elements of a slice. -/
theorem op_sliceP {P : Program} {N : Nat} {e : Env} {d : Option Tmp} {ty : TypeId} {pos : String} {after : Array Edge} {g : Option (Nat × Bool)} {t el : TypeId} {sz : Nat} {x hi_ : Operand} {oa : Option Addr} {n c : Nat} {k : IntKind} {h : Nat} (ht : TSl P t el sz) (hx : ev e x = some (.slice oa n c)) (hh : ev e hi_ = some (.int k h)) (h2 : h ≤ c) : OpP P N e ⟨d, .slice t x none (some hi_) none, ty, pos, after, g⟩ (.slice oa h c) :=
  op_val (op_slice_h ht hx hh h2) (by split <;> cases oa <;> simp [add_zero''])
theorem RSl.pre {α : Type} {sz : Nat} {E : ER α} {G : GH} {oa : Option Addr} {n c : Nat} {xs : List α} (h : RSl sz E G (.slice oa n c) xs) {m : Nat} (hm : m ≤ n) : RSl sz E G (.slice oa m c) (xs.take m) := by
  have h1 := h.cut (lo := 0) (hi := m) (Nat.zero_le _) hm
  have h2 : (Value.slice (if c = 0 then oa else oa.map (·.add (0 * sz))) (m - 0) (c - 0)) = .slice oa m c := by split <;> cases oa <;> simp [add_zero'']
  rw [h2, List.drop_zero] at h1
  exact h1
def EPair : ER (Int × Int) := fun _ cs x => cs = [.int .i64 x.1, .int .i64 x.2] ∧ (-9223372036854775808 ≤ x.1 ∧ x.1 ≤ 9223372036854775807) ∧ -9223372036854775808 ≤ x.2 ∧ x.2 ≤ 9223372036854775807
theorem EPair.mono : EMono EPair := fun _ _ _ _ _ h => h
end Go.Proofs.Ytnmkffkalnkbbaa.K
