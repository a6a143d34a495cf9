/-
  Maps from numbers to true: made, written, read.
  It speaks of any program. No condition.
-/
import Derived.Test.YtnmkffkalnkbbaaRet
import Derived.Maps.Own
import Derived.Laws.CopyRow
import Derived.Laws.Bits64b
namespace Go.Proofs.Ytnmkffkalnkbbaa.K
open Go Go.RowKit
open Go.ChangeMaps (setBlock heap_setBlock_same heap_setBlock_other)

/-- A map whose keys are these numbers, each with true. -/
def MapI (o : Obj) (S : List Int) : Prop := ∃ es clock, o = .map es clock ∧ es.toList.map (fun e => (e.key, e.val)) = S.map fun k => (Value.int .i64 k, Value.bool true)
theorem MapI.empty : MapI (.map #[] 0) [] := ⟨#[], 0, rfl, rfl⟩
theorem findNow_i (k : Int) : ∀ (es : List MapEntry) (S : List Int) (i : Nat), es.map (fun e => (e.key, e.val)) = S.map (fun k => (Value.int .i64 k, Value.bool true)) →
    Instr.findNow (.int .i64) (.int .i64 k) es i = some (if k ∈ S then some (i + S.idxOf k, Value.bool true) else none)
  | [], [], i, _ => by simp [Instr.findNow]
  | [], _ :: _, i, h => by simp at h
  | _ :: _, [], i, h => by simp at h
  | e :: es, s :: S, i, h => by
    simp only [List.map_cons, List.cons.injEq, Prod.mk.injEq] at h
    obtain ⟨⟨h1, h2⟩, h3⟩ := h
    have ih := findNow_i k es S (i + 1) h3
    unfold Instr.findNow
    rw [h1, h2]
    by_cases hk : k = s
    · subst hk
      simp [Instr.sameNow]
    · have hb : (k == s) = false := by simpa using hk
      simp only [Instr.sameNow, if_true, hb]
      rw [ih]
      by_cases hm : k ∈ S
      · simp [hm, List.idxOf_cons, show (s == k) = false from by simpa using Ne.symm hk]
        omega
      · simp [hm, hk]
section
variable {P : Program} {N : Nat} {e : Env} {w w' : World} {d : Option Tmp} {ty : TypeId} {pos : String} {after : Array Edge} {g : Option (Nat × Bool)}
variable {G0 G : GH} {w0 : World} {M : List Ent}
def TMap (P : Program) (t : TypeId) : Prop := ∃ kt et, P.underlying t = some (.map kt et) ∧ P.underlying kt = some (.int .i64) ∧ P.underlying et = some .bool ∧ (P.info? et).map (·.zero) = some (some (.bool false))
theorem op_lookup {S : World → Prop} {t : TypeId} {x y : Operand} {b : Nat} {o : Obj} {X : List Int} {k : Int} (ht : TMap P t) (hM : MapI o X) (hx : ev e x = some (.map (some b))) (hy : ev e y = some (.int .i64 k)) (ho : ∀ w, S w → w.heap[b]? = some o) : OpL P N e S ⟨d, .lookup t x y false, ty, pos, after, g⟩ (.bool (decide (k ∈ X))) := fun a ha w hw => by
  obtain ⟨kt, et, h1, h2, h3, h4⟩ := ht
  obtain ⟨es, clock, rfl, he⟩ := hM
  have hf := findNow_i k es.toList X 0 he
  have hb := ho w hw
  have hz : (zeroValue et).run P w = .ok (.bool false) w := by
    cases hi : P.info? et with
    | none => rw [hi] at h4; cases h4
    | some i =>
      rw [hi] at h4
      have : i.zero = some (.bool false) := by simpa using h4
      simp [zeroValue, typeInfo, hi, this]
  have hg : (getObj b).run P w = .ok (.map es clock) w := Go.MapKept.run_getObj_map hb
  have hc : ∀ em, (Instr.checkKey em 10000 kt (.int .i64 k)).run P w = .ok () w := fun em => by
    unfold Instr.checkKey
    simp [run_underlying h2]
  have hk : (Instr.findKey kt (.int .i64 k) es.toList).run P w = .ok (if k ∈ X then some (0 + X.idxOf k, Value.bool true) else none) w := by
    unfold Instr.findKey
    simp [run_underlying h2, hf]
  by_cases hm : k ∈ X
  · rw [if_pos hm] at hk
    simp [execOp, Instr.lookup, ha.ev hx, ha.ev hy, run_underlying h1, hg, hc, hk, hm]
  · rw [if_neg hm] at hk
    simp [execOp, Instr.lookup, ha.ev hx, ha.ev hy, run_underlying h1, hg, hc, hk, hm, hz]
theorem op_makeMap {t : TypeId} (hS : SS G0 w0 G M w) : OpK P N e w ⟨d, .makeMap t none, ty, pos, after, g⟩ (fun v w' => ∃ b o, v = .map (some b) ∧ MapI o [] ∧ SS G0 w0 G (.obj b o :: M) w') :=
  opk_run fun a ha => by
    refine ⟨.map (some w.heap.size), w.alloc (.map #[] 0), ?_, _, _, rfl, MapI.empty, ?_⟩
    · simp [execOp, Instr.makeMap]
    · exact hS.fresh (below_alloc w _) (x := .obj w.heap.size (.map #[] 0)) (heap_alloc_new w _) (fun b hb => by simp [Ent.fp] at hb; omega)
theorem op_mapUpdate {t : TypeId} {x y z : Operand} {b j : Nat} {o : Obj} {X : List Int} {k : Int} (hS : SS G0 w0 G M w) (ht : TMap P t) (hM : MapI o X) (hj : M[j]? = some (.obj b o)) (hx : ev e x = some (.map (some b))) (hy : ev e y = some (.int .i64 k)) (hz : ev e z = some (.bool true)) :
    OpK P N e w ⟨d, .mapUpdate t x y z, ty, pos, after, g⟩ (fun _ w' => ∃ o', MapI o' (if k ∈ X then X else X ++ [k]) ∧ SS G0 w0 G (M.set j (.obj b o')) w') :=
  opk_skip fun a ha => by
    obtain ⟨kt, et, h1, h2, h3, h4⟩ := ht
    obtain ⟨es, clock, rfl, he⟩ := hM
    have hf := findNow_i k es.toList X 0 he
    have hb : w.heap[b]? = some (.map es clock) := hS.own _ (List.mem_of_getElem? hj)
    have hg : (getObj b).run P w = .ok (.map es clock) w := Go.MapKept.run_getObj_map hb
    have hc : ∀ em, (Instr.checkKey em 10000 kt (.int .i64 k)).run P w = .ok () w := fun em => by
      unfold Instr.checkKey
      simp [run_underlying h2]
    have hk : (Instr.findKey kt (.int .i64 k) es.toList).run P w = .ok (if k ∈ X then some (0 + X.idxOf k, Value.bool true) else none) w := by
      unfold Instr.findKey
      simp [run_underlying h2, hf]
    have hturn : ∀ o', SS G0 w0 G (M.set j (.obj b o')) (setBlock w b o') := fun o' => by
      have hlt : b < w.heap.size := by
        rcases Nat.lt_or_ge b w.heap.size with hh | hh
        · exact hh
        · rw [Array.getElem?_eq_none hh] at hb; cases hb
      refine hS.turn hj (fun i _ hne => heap_setBlock_other hb _ (fun e => hne (by simp [Ent.fp, e]))) (by simp [setBlock]) rfl rfl rfl ?_ (fun b' hb' => .inl hb')
      exact heap_setBlock_same hb _
    by_cases hm : k ∈ X
    · rw [if_pos hm] at hk
      have hlen : es.toList.length = X.length := by have := congrArg List.length he; simpa using this
      have hlt : X.idxOf k < X.length := List.idxOf_lt_length_iff.2 hm
      have hlt2 : X.idxOf k < es.size := by simpa using (by omega : X.idxOf k < es.toList.length)
      have hke : es[X.idxOf k]?.map (·.key) = some (.int .i64 k) := by
        have := congrArg (fun l => l[X.idxOf k]?) he
        simp [hlt, hlt2] at this
        simp [hlt2, this.1]
      refine ⟨setBlock w b (.map (es.modify (X.idxOf k) fun e => { e with key := .int .i64 k, val := .bool true }) clock), ?_, _, ⟨_, _, rfl, ?_⟩, hturn _⟩
      · simp [execOp, Instr.mapUpdate, ha.ev hx, ha.ev hy, ha.ev hz, run_underlying h1, hg, hc, hk, hke, Instr.keyThatStays, Instr.sameBits, Go.MapKept.run_setObj_map _ hb, setBlock]
      · rw [if_pos hm, ← he]
        refine List.ext_getElem (by simp) fun i h5 h6 => ?_
        have h6' : i < es.size := by simpa using h6
        have hX : i < X.length := by have := (show i < es.toList.length from by simpa using h6'); omega
        have h7 := congrArg (fun l => l[i]?) he
        simp [h6', hX] at h7
        by_cases hi : X.idxOf k = i
        · subst hi
          simp [h7]
        · simp [hi]
    · rw [if_neg hm] at hk
      refine ⟨setBlock w b (.map (es.push { key := .int .i64 k, val := .bool true, born := clock }) (clock + 1)), ?_, _, ⟨_, _, rfl, ?_⟩, hturn _⟩
      · simp [execOp, Instr.mapUpdate, ha.ev hx, ha.ev hy, ha.ev hz, run_underlying h1, hg, hc, hk, Go.MapKept.run_setObj_map _ hb, setBlock]
      · rw [if_neg hm]
        simp [he]
/-! ### Numbers without a sign; answers that are known -/
theorem op_addU {t t' : TypeId} {x y : Operand} {m n : Int} (hx : ev e x = some (.int .u64 m)) (hy : ev e y = some (.int .u64 n)) (h0 : 0 ≤ m + n) (h1 : m + n ≤ 18446744073709551615) : OpP P N e ⟨d, .binOp .add t x y t', ty, pos, after, g⟩ (.int .u64 (m + n)) := fun a ha w => by
  simp [execOp, eqGuard, binOp, Op.intArith, ha.ev hx, ha.ev hy, IntKind.wrap_u64, Int.emod_eq_of_lt h0 (by omega : m + n < 18446744073709551616)]
theorem op_mulU {t t' : TypeId} {x y : Operand} {m n : Int} (hx : ev e x = some (.int .u64 m)) (hy : ev e y = some (.int .u64 n)) (h0 : 0 ≤ m * n) (h1 : m * n ≤ 18446744073709551615) : OpP P N e ⟨d, .binOp .mul t x y t', ty, pos, after, g⟩ (.int .u64 (m * n)) := fun a ha w => by
  simp [execOp, eqGuard, binOp, Op.intArith, ha.ev hx, ha.ev hy, IntKind.wrap_u64, Int.emod_eq_of_lt h0 (by omega : m * n < 18446744073709551616)]
theorem op_shrU {t t' : TypeId} {x y : Operand} {m n : Int} (hx : ev e x = some (.int .u64 m)) (hy : ev e y = some (.int .u64 n)) (h0 : 0 ≤ n) (h1 : n ≤ 64) : OpP P N e ⟨d, .binOp .shr t x y t', ty, pos, after, g⟩ (.int .u64 (m / 2 ^ n.toNat)) := fun a ha w => by
  have := shift_shr .u64 .u64 m n h0 h1
  simp only [execOp, eqGuard, ha.ev hx, ha.ev hy, binOp_shr, this]
  rfl
theorem op_lssF {k : IntKind} {t t' : TypeId} {x y : Operand} {m n : Int} (hx : ev e x = some (.int k m)) (hy : ev e y = some (.int k n)) (h : n ≤ m) : OpP P N e ⟨d, .binOp .lss t x y t', ty, pos, after, g⟩ (.bool false) := by
  have := op_lss (P := P) (N := N) (t := t) (t' := t') (d := d) (ty := ty) (pos := pos) (after := after) (g := g) hx hy
  rwa [decide_eq_false (by omega)] at this
theorem op_gtrF {k : IntKind} {t t' : TypeId} {x y : Operand} {m n : Int} (hx : ev e x = some (.int k m)) (hy : ev e y = some (.int k n)) (h : m ≤ n) : OpP P N e ⟨d, .binOp .gtr t x y t', ty, pos, after, g⟩ (.bool false) := by
  have := op_gtr (P := P) (N := N) (t := t) (t' := t') (d := d) (ty := ty) (pos := pos) (after := after) (g := g) hx hy
  rwa [decide_eq_false (by omega)] at this
/-- copy into a row of the call's own, from its place k on. -/
theorem op_copy {t el : TypeId} {j k : Nat} {x y : Operand} {oa od os : Option Addr} {n c dl dc sl sc : Nat} {xs cs : List Value} {ts : Array TypeId} (hS : SS G0 w0 G M w) (ht : TSl P t el 1) (hts : ts = #[t, t]) (hj : M[j]? = some (.row oa n c el 1 xs))
    (hx : ev e x = some (.slice od dl dc)) (hy : ev e y = some (.slice os sl sc)) (hod : cs = [] ∨ od = oa.map (·.add k)) (hn : cs.length = Nat.min sl dl) (hk : k + cs.length ≤ n) (hsrc : ∀ (i : Nat) (u : Value), cs[i]? = some u → os.isSome = true ∧ w.cell? (elA os i) = some u) (h1 : ∀ u ∈ cs, u.oneCell' = true) :
    OpK P N e w ⟨d, .call ⟨.builtin .copy, #[x, y], ts⟩, ty, pos, after, g⟩ (fun v w' => v = .int .i64 cs.length ∧ SS G0 w0 G (M.set j (.row oa n c el 1 (xs.take k ++ cs ++ xs.drop (k + cs.length)))) w') :=
  opk_run fun a ha => by
    subst hts
    obtain ⟨hu, i, hi, hs⟩ := ht
    have hr : RowIn w oa n c el 1 xs := hS.own _ (List.mem_of_getElem? hj)
    obtain ⟨hl, hnc, hcm, hrow⟩ := hr
    by_cases h0 : cs = []
    · subst h0
      refine ⟨.int .i64 (0 : Nat), w, ?_, rfl, ?_⟩
      · have hm : Nat.min sl dl = 0 := hn.symm
        have hfc : (Builtin.firstCells i.size 0 (.slice os sl sc)).run P w = .ok #[] w := by
          cases os <;> simp [Builtin.firstCells, loadCells, loadCellsFrom]
        rw [hs] at hfc
        simp only [execOp, resolve, invoke, builtin]
        cases od <;> simp [ha.ev hx, ha.ev hy, Builtin.copy_, run_underlying hu, Builtin.lenOf, sizeOf, typeInfo, hi, hs, hm, hfc, storeCells, goInt]
      · rw [List.append_nil, List.length_nil, Nat.add_zero, List.take_append_drop, set_self hj]
        exact hS
    · have hpos : 0 < cs.length := List.length_pos_iff.2 h0
      have hod : od = oa.map (·.add k) := hod.resolve_left h0
      rcases hrow with ⟨rfl, rfl⟩ | ⟨gb, off, cur, rfl, hg, hcs, hcell⟩
      · omega
      · have hsome := (hsrc 0 _ (List.getElem?_eq_getElem hpos)).1
        cases os with
        | none => cases hsome
        | some b0 =>
          have hod : od = some ⟨gb, off + k, none⟩ := by rw [hod, Option.map_some, Addr.add_lit]
          subst hod
          have hfit : off + k + cs.length ≤ cur.size := by omega
          have hrun := run_copy_row (P := P) w t t ty el gb (off + k) dl dc b0 sl sc cur el cs hu (by rw [hi]; simp [hs]) hg hn (fun i u hu => (hsrc i u hu).2) hfit h1
          refine ⟨.int .i64 cs.length, w.setRow gb (cur.toList.take (off + k) ++ cs ++ cur.toList.drop (off + k + cs.length)).toArray, ?_, rfl, hS.turn hj (fun q _ hne => setRow_other w gb q _ (fun hh => hne (by simp [Ent.fp, hh]))) (by simp) rfl rfl rfl ?_ (fun b hb => .inl hb)⟩
          · simp [execOp, resolve, invoke, builtin, ha.ev hx, ha.ev hy, hrun, goInt]
          · refine ⟨by simp; omega, hnc, hcm, .inr ⟨gb, off, _, rfl, setRow_heap w gb cur _ el _ hg, by simp; omega, fun q u hq => ?_⟩⟩
            rw [List.getElem?_toArray]
            by_cases hq1 : q < k
            · rw [List.append_assoc, List.getElem?_append_left (by simp; omega), List.getElem?_take, if_pos hq1] at hq
              rw [List.append_assoc, List.getElem?_append_left (by simp; omega), List.getElem?_take, if_pos (by omega)]
              simpa using hcell q u hq
            · rw [List.append_assoc, List.getElem?_append_right (by simp; omega)] at hq
              have hkl : (xs.take k).length = k := by simp; omega
              rw [hkl] at hq
              have htl : (cur.toList.take (off + k)).length = off + k := by simp; omega
              rw [List.append_assoc, List.getElem?_append_right (by omega), htl]
              by_cases hq2 : q - k < cs.length
              · rw [List.getElem?_append_left hq2] at hq
                rw [List.getElem?_append_left (by omega), show off + q - (off + k) = q - k from by omega]
                exact hq
              · rw [List.getElem?_append_right (by omega), List.getElem?_drop] at hq
                rw [List.getElem?_append_right (by omega), List.getElem?_drop]
                have := hcell _ u hq
                rw [show off + k + cs.length + (off + q - (off + k) - cs.length) = off + (k + cs.length + (q - k - cs.length)) from by omega]
                simpa using this
end
end Go.Proofs.Ytnmkffkalnkbbaa.K
