/-
  The kit's third text: each operation, over what is known of the frame and of memory.
  It speaks of any program. No condition.
-/
import Derived.Test.YtnmkffkalnkbbaaMem
namespace Go.Proofs.Ytnmkffkalnkbbaa.K
open Go Go.RowKit

/-! ### Facts on types (closed ones, of a given program) -/
def aggD : TypeDesc → Bool | .struct _ => true | .array _ _ => true | _ => false
def TOne (P : Program) (t : TypeId) : Prop := ∃ d, P.underlying t = some d ∧ aggD d = false
def TAgg (P : Program) (t : TypeId) (n : Nat) : Prop := (∃ d, P.underlying t = some d ∧ aggD d = true) ∧ ∃ i, P.info? t = some i ∧ i.size = n
def TSl (P : Program) (t e : TypeId) (sz : Nat) : Prop := P.underlying t = some (.slice e) ∧ ∃ i, P.info? e = some i ∧ i.size = sz
def TEl (P : Program) (e : TypeId) (z : Value) (sz bytes : Nat) : Prop := (P.info? e).map (fun i => (i.zero, i.size, i.bytes)) = some (some z, sz, bytes)
def TFld (P : Program) (s : TypeId) (k off : Nat) : Prop := ∃ fs f i, P.underlying s = some (.struct fs) ∧ fs[k]? = some f ∧ f.offset = off ∧ P.info? f.type = some i ∧ i.size ≠ 0
def TStr (P : Program) (t : TypeId) : Prop := P.underlying t = some .string
def TInt (P : Program) (t : TypeId) (k : IntKind) : Prop := P.underlying t = some (.int k)
def CF (P : Program) (f : FuncId) : Prop := ∀ (args : Array Value) (w : World), (callFunc f args).run P w = .ok (.enter f args) w
theorem cf_of {P : Program} {f : FuncId} {fn : Func} (hf : P.funcs[f]? = some fn) (hn : (fn.name == "runtime.NumGoroutine") = false) (hb : fn.body.isNone = false) : CF P f := fun args w => by
  have h1 : ¬ fn.name = "runtime.NumGoroutine" := by simpa using hn
  have h2 : ¬ fn.body = none := by intro hh; rw [hh] at hb; cases hb
  simp [callFunc, hf, h1, h2]

variable {P : Program} {N : Nat} {e : Env} {w : World} {d : Option Tmp} {ty : TypeId} {pos : String} {after : Array Edge} {g : Option (Nat × Bool)}

/-! ### What neither reads nor writes memory -/
theorem op_move {x : Operand} {v : Value} (hx : ev e x = some v) : OpP P N e ⟨d, .move x, ty, pos, after, g⟩ v := fun a ha w => by
  simp [execOp, ha.ev hx]
theorem op_assign {x : Operand} {v : Value} (hx : ev e x = some v) : OpP P N e ⟨d, .assign x, ty, pos, after, g⟩ v := fun a ha w => by
  simp [execOp, ha.ev hx]
theorem op_pick_t {c x y : Operand} {v : Value} (hc : ev e c = some (.bool true)) (hx : ev e x = some v) : OpP P N e ⟨d, .pick c x y, ty, pos, after, g⟩ v := fun a ha w => by
  simp [execOp, asBool, ha.ev hc, ha.ev hx]
theorem op_pick_f {c x y : Operand} {v : Value} (hc : ev e c = some (.bool false)) (hy : ev e y = some v) : OpP P N e ⟨d, .pick c x y, ty, pos, after, g⟩ v := fun a ha w => by
  simp [execOp, asBool, ha.ev hc, ha.ev hy]
theorem op_nilCheck {x : Operand} {p : Addr} (hx : ev e x = some (.pointer (some p))) : OpP P N e ⟨d, .nilCheck x, ty, pos, after, g⟩ (.pointer (some p)) := fun a ha w => by
  simp [execOp, ha.ev hx]
theorem op_nilCheckF {x : Operand} {f : FuncId} {fs cs : Array Value} (hx : ev e x = some (.func (.func f) fs cs)) : OpP P N e ⟨d, .nilCheck x, ty, pos, after, g⟩ (.func (.func f) fs cs) := fun a ha w => by
  simp [execOp, ha.ev hx]
theorem op_not {x : Operand} {b : Bool} {t : TypeId} (hx : ev e x = some (.bool b)) : OpP P N e ⟨d, .unOp .not t x, ty, pos, after, g⟩ (.bool (!b)) := fun a ha w => by
  simp [execOp, Op.unary, ha.ev hx]
theorem op_extract {x : Operand} {i : Nat} {vs : List Value} {v : Value} (hx : ev e x = some (.tuple vs.toArray)) (hi : vs[i]? = some v) : OpP P N e ⟨d, .extract x i, ty, pos, after, g⟩ v := fun a ha w => by
  simp [execOp, Instr.extract, ha.ev hx, hi]
theorem op_makeFunc {fn : Fn} {xs ys : List Operand} {us vs : List Value} (hx : evL e xs = some us) (hy : evL e ys = some vs) : OpP P N e ⟨d, .makeFunc fn xs.toArray ys.toArray, ty, pos, after, g⟩ (.func fn us.toArray vs.toArray) := fun a ha w => by
  simp [execOp, Instr.makeFunc, ha.evL hx, ha.evL hy]

section
variable {x y : Operand} {t t' : TypeId} {k : IntKind} {m n : Int}
theorem op_add (hx : ev e x = some (.int .i64 m)) (hy : ev e y = some (.int .i64 n)) (h0 : -9223372036854775808 ≤ m + n) (h1 : m + n ≤ 9223372036854775807) : OpP P N e ⟨d, .binOp .add t x y t', ty, pos, after, g⟩ (.int .i64 (m + n)) := fun a ha w => by
  simp [execOp, eqGuard, binOp, Op.intArith, ha.ev hx, ha.ev hy, IntWalk.i64_in _ ⟨h0, h1⟩]
theorem op_sub (hx : ev e x = some (.int .i64 m)) (hy : ev e y = some (.int .i64 n)) (h0 : -9223372036854775808 ≤ m - n) (h1 : m - n ≤ 9223372036854775807) : OpP P N e ⟨d, .binOp .sub t x y t', ty, pos, after, g⟩ (.int .i64 (m - n)) := fun a ha w => by
  simp [execOp, eqGuard, binOp, Op.intArith, ha.ev hx, ha.ev hy, IntWalk.i64_in _ ⟨h0, h1⟩]
theorem op_mul (hx : ev e x = some (.int .i64 m)) (hy : ev e y = some (.int .i64 n)) (h0 : -9223372036854775808 ≤ m * n) (h1 : m * n ≤ 9223372036854775807) : OpP P N e ⟨d, .binOp .mul t x y t', ty, pos, after, g⟩ (.int .i64 (m * n)) := fun a ha w => by
  simp [execOp, eqGuard, binOp, Op.intArith, ha.ev hx, ha.ev hy, IntWalk.i64_in _ ⟨h0, h1⟩]
theorem op_rem (hx : ev e x = some (.int k m)) (hy : ev e y = some (.int k n)) (h0 : 0 ≤ m) (h1 : 0 < n) : OpP P N e ⟨d, .binOp .rem t x y t', ty, pos, after, g⟩ (.int k (m % n)) := fun a ha w => by
  have : ¬ n = 0 := by omega
  simp [execOp, eqGuard, binOp, Op.intDiv, ha.ev hx, ha.ev hy, this, Int.tmod_eq_emod_of_nonneg h0]
theorem op_and (hx : ev e x = some (.int k m)) (hy : ev e y = some (.int k n)) : OpP P N e ⟨d, .binOp .and t x y t', ty, pos, after, g⟩ (.int k (bits .and k m n)) := fun a ha w => by
  simp [execOp, eqGuard, binOp, ha.ev hx, ha.ev hy]
  rfl
theorem op_lss (hx : ev e x = some (.int k m)) (hy : ev e y = some (.int k n)) : OpP P N e ⟨d, .binOp .lss t x y t', ty, pos, after, g⟩ (.bool (decide (m < n))) := fun a ha w => by
  simp [execOp, eqGuard, binOp, Op.intCmp, ha.ev hx, ha.ev hy]
theorem op_leq (hx : ev e x = some (.int k m)) (hy : ev e y = some (.int k n)) : OpP P N e ⟨d, .binOp .leq t x y t', ty, pos, after, g⟩ (.bool (decide (m ≤ n))) := fun a ha w => by
  simp [execOp, eqGuard, binOp, Op.intCmp, ha.ev hx, ha.ev hy]
theorem op_gtr (hx : ev e x = some (.int k m)) (hy : ev e y = some (.int k n)) : OpP P N e ⟨d, .binOp .gtr t x y t', ty, pos, after, g⟩ (.bool (decide (n < m))) := fun a ha w => by
  simp [execOp, eqGuard, binOp, Op.intCmp, ha.ev hx, ha.ev hy]
theorem op_geq (hx : ev e x = some (.int k m)) (hy : ev e y = some (.int k n)) : OpP P N e ⟨d, .binOp .geq t x y t', ty, pos, after, g⟩ (.bool (decide (n ≤ m))) := fun a ha w => by
  simp [execOp, eqGuard, binOp, Op.intCmp, ha.ev hx, ha.ev hy]
theorem op_eql (hx : ev e x = some (.int k m)) (hy : ev e y = some (.int k n)) : OpP P N e ⟨d, .binOp .eql t x y t', ty, pos, after, g⟩ (.bool (decide (m = n))) := fun a ha w => by
  simp [execOp, eqGuard, binOp, Op.intCmp, ha.ev hx, ha.ev hy]
  rfl
theorem op_neq (hx : ev e x = some (.int k m)) (hy : ev e y = some (.int k n)) : OpP P N e ⟨d, .binOp .neq t x y t', ty, pos, after, g⟩ (.bool (!decide (m = n))) := fun a ha w => by
  simp [execOp, eqGuard, binOp, Op.intCmp, ha.ev hx, ha.ev hy]
  rfl
theorem op_eqlB {b c : Bool} (ht : P.underlying t = some .bool) (hx : ev e x = some (.bool b)) (hy : ev e y = some (.bool c)) : OpP P N e ⟨d, .binOp .eql t x y t', ty, pos, after, g⟩ (.bool (b == c)) := fun a ha w => by
  simp [execOp, eqGuard, ha.ev hx, ha.ev hy, run_eql_bool (P := P) w t b c ht]
theorem op_neqB {b c : Bool} (ht : P.underlying t = some .bool) (hx : ev e x = some (.bool b)) (hy : ev e y = some (.bool c)) : OpP P N e ⟨d, .binOp .neq t x y t', ty, pos, after, g⟩ (.bool (!(b == c))) := fun a ha w => by
  simp [execOp, eqGuard, ha.ev hx, ha.ev hy, run_neq_bool (P := P) w t b c ht]
theorem op_eqlS {b c : ByteArray} (hx : ev e x = some (.string b)) (hy : ev e y = some (.string c)) : OpP P N e ⟨d, .binOp .eql t x y t', ty, pos, after, g⟩ (.bool (b.toList == c.toList)) := fun a ha w => by
  simp [execOp, eqGuard, binOp, Op.stringOp, ha.ev hx, ha.ev hy]
theorem op_neqS {b c : ByteArray} (hx : ev e x = some (.string b)) (hy : ev e y = some (.string c)) : OpP P N e ⟨d, .binOp .neq t x y t', ty, pos, after, g⟩ (.bool (!(b.toList == c.toList))) := fun a ha w => by
  simp [execOp, eqGuard, binOp, Op.stringOp, ha.ev hx, ha.ev hy]
theorem op_lssS {b c : ByteArray} (hx : ev e x = some (.string b)) (hy : ev e y = some (.string c)) : OpP P N e ⟨d, .binOp .lss t x y t', ty, pos, after, g⟩ (.bool (Op.bytesLess b.toList c.toList)) := fun a ha w => by
  simp [execOp, eqGuard, binOp, Op.stringOp, ha.ev hx, ha.ev hy]
/-- An operation whose run is known. -/
theorem op_run {o : Oper} {v : Value} (h : ∀ a, Kn N e a → ∀ w, (execOp a.eval o).run P w = .ok (.value v) w) : OpP P N e o v := h
theorem op_conv {j : IntKind} (ht : ∃ s, P.underlying t = some s) (hu : P.underlying t' = some (.int k)) (hx : ev e x = some (.int j m)) (hw : k.wrap m = m) : OpP P N e ⟨d, .convert t t' x, ty, pos, after, g⟩ (.int k m) := fun a ha w => by
  obtain ⟨s, hs⟩ := ht
  simp [execOp, ha.ev hx, convert, run_underlying hs, run_underlying hu, Conv.intToInt, hw]
end

/-! ### Addresses -/
theorem op_fieldAddr {s : TypeId} {x : Operand} {p : Addr} {k off : Nat} (hf : TFld P s k off) (hx : ev e x = some (.pointer (some p))) : OpP P N e ⟨d, .fieldAddr s x k, ty, pos, after, g⟩ (.pointer (some (p.add off))) := fun a ha w => by
  obtain ⟨fs, f, i, h1, h2, h3, h4, h5⟩ := hf
  simp [execOp, Instr.fieldAt, Instr.sureAddr, fieldPlace, sizeOf, typeInfo, ha.ev hx, run_underlying h1, h2, h3, h4, h5]
theorem op_indexAddr {t el : TypeId} {sz : Nat} {x y : Operand} {oa : Option Addr} {n c : Nat} {k : IntKind} {i : Int} (ht : TSl P t el sz) (hx : ev e x = some (.slice oa n c)) (hy : ev e y = some (.int k i)) (h0 : 0 ≤ i) (h1 : i < n) (hoa : oa.isSome = true) :
    OpP P N e ⟨d, .indexAddr t x y, ty, pos, after, g⟩ (.pointer (some (elA oa (i.toNat * sz)))) := fun a ha w => by
  obtain ⟨hu, inf, hi, hs⟩ := ht
  cases oa with
  | none => cases hoa
  | some p =>
    simp [execOp, Instr.indexAt, asIntOf, sizeOf, typeInfo, ha.ev hx, ha.ev hy, run_underlying hu, h0, h1, hi, hs, elA]
theorem op_len {t : TypeId} {el : TypeId} {sz : Nat} {x : Operand} {oa : Option Addr} {n c : Nat} {ts : Array TypeId} (ht : TSl P t el sz) (hts : ts = #[t]) (hx : ev e x = some (.slice oa n c)) : OpP P N e ⟨d, .call ⟨.builtin .len, #[x], ts⟩, ty, pos, after, g⟩ (.int .i64 n) := fun a ha w => by
  subst hts
  simp [execOp, resolve, invoke, builtin, Builtin.len_, ha.ev hx, run_underlying ht.1, goInt]
theorem op_lenS {t : TypeId} {x : Operand} {s : ByteArray} {ts : Array TypeId} (ht : TStr P t) (hts : ts = #[t]) (hx : ev e x = some (.string s)) : OpP P N e ⟨d, .call ⟨.builtin .len, #[x], ts⟩, ty, pos, after, g⟩ (.int .i64 s.size) := fun a ha w => by
  subst hts
  simp [execOp, resolve, invoke, builtin, Builtin.len_, ha.ev hx, run_underlying ht, goInt]
theorem op_min {x y : Operand} {ts : Array TypeId} {m n : Int} {k : IntKind} (hx : ev e x = some (.int k m)) (hy : ev e y = some (.int k n)) : OpP P N e ⟨d, .call ⟨.builtin .min, #[x, y], ts⟩, ty, pos, after, g⟩ (.int k (if n < m then n else m)) := fun a ha w => by
  simp [execOp, resolve, invoke, builtin, ha.ev hx, ha.ev hy, run_min_int2]
theorem op_max {x y : Operand} {ts : Array TypeId} {m n : Int} {k : IntKind} (hx : ev e x = some (.int k m)) (hy : ev e y = some (.int k n)) : OpP P N e ⟨d, .call ⟨.builtin .max, #[x, y], ts⟩, ty, pos, after, g⟩ (.int k (if n > m then n else m)) := fun a ha w => by
  simp [execOp, resolve, invoke, builtin, ha.ev hx, ha.ev hy, run_max_int2]
theorem op_indexS {t : TypeId} {x y : Operand} {s : ByteArray} {k : IntKind} {i : Nat} (ht : TStr P t) (hx : ev e x = some (.string s)) (hy : ev e y = some (.int k i)) (hi : i < s.size) : OpP P N e ⟨d, .index t x y, ty, pos, after, g⟩ (.int .u8 (s[i]'hi).toNat) := fun a ha w => by
  simp [execOp, Instr.index, asIntOf, ha.ev hx, ha.ev hy, run_underlying ht, ByteArray.getElem?_lt' s i hi]

/-! ### Loads -/
section
variable {S : World → Prop}
theorem op_load1 {t : TypeId} {x : Operand} {p : Addr} {v : Value} (ht : TOne P t) (hx : ev e x = some (.pointer (some p))) (hc : ∀ w, S w → w.cell? p = some v) : OpL P N e S ⟨d, .load t x, ty, pos, after, g⟩ v := fun a ha w hw => by
  obtain ⟨dd, hu, hd⟩ := ht
  have hc' := hc w hw
  have hag : (isAgg t).run P w = .ok false w := by
    unfold isAgg
    simp only [Sem.run_bind, run_underlying hu, Result.andThen_ok]
    cases dd <;> first | rfl | cases hd
  simp [execOp, Instr.loadAt, Instr.sureAddr, loadVar, ha.ev hx, hag, hc']
theorem op_loadN {t : TypeId} {n : Nat} {x : Operand} {p : Addr} {cs : List Value} (ht : TAgg P t n) (hx : ev e x = some (.pointer (some p))) (hn : cs.length = n) (hc : ∀ w, S w → ∀ (k : Nat) (u : Value), cs[k]? = some u → w.cell? (p.add k) = some u) :
    OpL P N e S ⟨d, .load t x, ty, pos, after, g⟩ (.agg cs.toArray) := fun a ha w hw => by
  obtain ⟨⟨dd, hu, hd⟩, i, hi, hs⟩ := ht
  have hag : (isAgg t).run P w = .ok true w := by
    unfold isAgg
    simp only [Sem.run_bind, run_underlying hu, Result.andThen_ok]
    cases dd <;> first | rfl | cases hd
  have hl := run_loadCells_list (P := P) w p cs (hc w hw)
  subst hn
  simp [execOp, Instr.loadAt, Instr.sureAddr, loadVar, sizeOf, typeInfo, ha.ev hx, hag, hi, hs, hl]
end

/-! ### New blocks -/
section
variable {G0 G : GH} {w0 : World} {M : List Ent}
theorem zero_run {t : TypeId} {z : Value} {sz by_ : Nat} (h : TEl P t z sz by_) (w : World) : (zeroValue t).run P w = .ok z w := by
  obtain ⟨i, hi, hz, _⟩ := info_parts h
  simp [zeroValue, typeInfo, hi, hz]
theorem op_alloc {t : TypeId} {z : Value} {sz by_ : Nat} {cs : List Value} (hS : SS G0 w0 G M w) (h : TEl P t z sz by_) (hz : z.cells = cs.toArray) : OpK P N e w ⟨d, .alloc t, ty, pos, after, g⟩ (fun v w' => ∃ b, v = .pointer (some ⟨b, 0, none⟩) ∧ SS G0 w0 G (.blk b t cs :: M) w') :=
  opk_run fun a ha => by
    refine ⟨.pointer (some ⟨w.heap.size, 0, none⟩), w.alloc (.cells cs.toArray t), ?_, w.heap.size, rfl, hS.alloc t cs⟩
    simp [execOp, Instr.alloc, newVar, newRow, zero_run h, hz]
theorem op_box {t : TypeId} {x : Operand} {v : Value} {cs : List Value} (hS : SS G0 w0 G M w) (hx : ev e x = some v) (hz : v.cells = cs.toArray) : OpK P N e w ⟨d, .box t x, ty, pos, after, g⟩ (fun v w' => ∃ b, v = .pointer (some ⟨b, 0, none⟩) ∧ SS G0 w0 G (.blk b t cs :: M) w') :=
  opk_run fun a ha => by
    refine ⟨.pointer (some ⟨w.heap.size, 0, none⟩), w.alloc (.cells cs.toArray t), ?_, w.heap.size, rfl, hS.alloc t cs⟩
    simp [execOp, Instr.box, newVar, newRow, ha.ev hx, hz]
theorem op_makeSlice {t el : TypeId} {z : Value} {by_ : Nat} {x y : Operand} {n : Nat} (hS : SS G0 w0 G M w) (ht : TSl P t el 1) (h : TEl P el z 1 by_) (hz : z.cells = #[z]) (hx : ev e x = some (.int .i64 n)) (hy : ev e y = some (.int .i64 n)) (hb : by_ * n ≤ 281474976710656) (hm : n ≤ maxLen) :
    OpK P N e w ⟨d, .makeSlice t x y, ty, pos, after, g⟩ (fun v w' => ∃ oa, v = .slice oa n n ∧ SS G0 w0 G (.row oa n n el 1 (List.replicate n z) :: M) w') :=
  opk_run fun a ha => by
    obtain ⟨i, hi, hz0, hz1, hz2⟩ := info_parts h
    have hb' : ((by_ : Nat) : Int) * (n : Int) ≤ 281474976710656 := by have h := Int.ofNat_le.2 hb; rw [Int.natCast_mul] at h; exact h
    have hr := run_make (P := P) w t el i z ht.1 hi hz0 .i64 .i64 n n (by omega) (Int.le_refl _) (by rw [hz2]; exact hb') (by unfold maxLen at hm; omega)
    simp only [Int.toNat_natCast] at hr
    refine ⟨.slice (some ⟨w.heap.size, 0, none⟩) n n, _, ?_, some ⟨w.heap.size, 0, none⟩, rfl, hS.allocRow (n := n) (c := n) (sz := 1) (cs := madeCells z.cells (n * i.size)) (xs := List.replicate n z) el (by simp) (Nat.le_refl _) hm ?_ ?_⟩
    · simp [execOp, ha.ev hx, ha.ev hy, hr]
    · rw [size_madeCells, hz1]; exact Nat.le_refl _
    · intro j u hu
      rw [hz1, Nat.mul_one, hz, ← Array.getElem?_toList, toList_madeCells_one]
      exact hu
theorem op_buildSlice {t el : TypeId} {n : Nat} {ps : List (Nat × Operand)} {xs : List Operand} {vs : List Value} {is : List Nat} {cs : List Value} {sz : Nat} (hS : SS G0 w0 G M w) (hps : ps = is.zip xs) (hx : evL e xs = some vs)
    (hrun : ∀ w, (Instr.buildSlice t n (is.zip vs).toArray).run P w = .ok (.slice (some ⟨w.heap.size, 0, none⟩) n n) (w.alloc (.cells cs.toArray el))) (hc : cs.length = n * sz) (hm : n ≤ maxLen) :
    OpK P N e w ⟨d, .buildSlice t n ps.toArray, ty, pos, after, g⟩ (fun v w' => ∃ oa, v = .slice oa n n ∧ SS G0 w0 G (.row oa n n el sz cs :: M) w') :=
  opk_run fun a ha => by
    refine ⟨_, _, ?_, some ⟨w.heap.size, 0, none⟩, rfl, hS.allocRow (n := n) (c := n) (sz := sz) (cs := cs.toArray) (xs := cs) el hc (Nat.le_refl _) hm (by simp [hc]) (by simp)⟩
    have h1 : (ps.toArray.map fun (i, x) => (i, a.eval x)) = (is.zip vs).toArray := by
      subst hps
      have h2 : vs = xs.map a.eval := (ha.evL hx).symm
      subst h2
      simp only [List.map_toArray, Array.mk.injEq]
      rw [List.zip_map_right]
      congr 1
    simp only [execOp, h1]
    simp [hrun]
theorem op_build {t : TypeId} {ps : List (Nat × Operand)} {xs : List Operand} {vs : List Value} {is : List Nat} {v : Value} (hps : ps = is.zip xs) (hx : evL e xs = some vs)
    (hrun : ∀ w, (Instr.build t (is.zip vs).toArray).run P w = .ok v w) : OpP P N e ⟨d, .build t ps.toArray, ty, pos, after, g⟩ v := fun a ha w => by
  have h1 : (ps.toArray.map fun (i, x) => (i, a.eval x)) = (is.zip vs).toArray := by
    subst hps
    have h2 : vs = xs.map a.eval := (ha.evL hx).symm
    subst h2
    simp only [List.map_toArray, Array.mk.injEq]
    rw [List.zip_map_right]
    congr 1
  simp only [execOp, h1]
  simp [hrun]

/-! ### Stores into what the call owns -/
theorem run_storeVar1 {t : TypeId} {p : Addr} {v : Value} {sz : Nat} (hi : ∃ i, P.info? t = some i ∧ i.size = sz) (hsz : sz = 1) (hv : v.oneCell' = true) (hc : ∃ u, w.cell? p = some u) (hf : w.frozen? p = false) : (Instr.storeAt t (.pointer (some p)) v).run P w = .ok () (w.setCell p v) := by
  obtain ⟨i, hi, hs⟩ := hi
  obtain ⟨u, hc⟩ := hc
  subst hs
  have hcells : v.cells = #[v] := by cases v <;> first | rfl | cases hv
  simp [Instr.storeAt, Instr.sureAddr, storeVar, sizeOf, typeInfo, hi, hcells, hsz, storeCells, add_zero'', run_store P w p v .plain hv, hc, hf]
def TSz (P : Program) (t : TypeId) (sz : Nat) : Prop := ∃ i, P.info? t = some i ∧ i.size = sz
theorem op_storeB {t : TypeId} {x y : Operand} {b k j : Nat} {T : TypeId} {cs : List Value} {v : Value} (hS : SS G0 w0 G M w) (ht : TSz P t 1) (hj : M[j]? = some (.blk b T cs)) (hx : ev e x = some (.pointer (some ((⟨b, 0, none⟩ : Addr).add k)))) (hy : ev e y = some v) (hv : v.oneCell' = true) (hk : k < cs.length) :
    OpK P N e w ⟨d, .store t x y, ty, pos, after, g⟩ (fun _ w' => SS G0 w0 G (M.set j (.blk b T (cs.set k v))) w') :=
  opk_skip fun a ha => by
    refine ⟨_, ?_, hS.bstore (k := k) v hj⟩
    have := run_storeVar1 (P := P) (w := w) (t := t) (p := (⟨b, 0, none⟩ : Addr).add k) (v := v) ht rfl hv ⟨_, (hS.bcell (k := k) hj).trans (List.getElem?_eq_getElem hk)⟩ (hS.bfrozen hj)
    simp [execOp, ha.ev hx, ha.ev hy, this]
theorem op_storeB0 {t : TypeId} {x y : Operand} {b j : Nat} {T : TypeId} {u : Value} {cs : List Value} {v : Value} (hS : SS G0 w0 G M w) (ht : TSz P t 1) (hj : M[j]? = some (.blk b T (u :: cs))) (hx : ev e x = some (.pointer (some ⟨b, 0, none⟩))) (hy : ev e y = some v) (hv : v.oneCell' = true) :
    OpK P N e w ⟨d, .store t x y, ty, pos, after, g⟩ (fun _ w' => SS G0 w0 G (M.set j (.blk b T (v :: cs))) w') :=
  op_storeB (k := 0) hS ht hj (by rw [add_zero'']; exact hx) hy hv (by simp)
theorem op_storeR {t : TypeId} {x y : Operand} {j k : Nat} {oa : Option Addr} {n c sz : Nat} {T : TypeId} {xs : List Value} {v : Value} (hS : SS G0 w0 G M w) (ht : TSz P t 1) (hj : M[j]? = some (.row oa n c T sz xs)) (hx : ev e x = some (.pointer (some (elA oa k)))) (hy : ev e y = some v) (hv : v.oneCell' = true) (hk : k < xs.length) :
    OpK P N e w ⟨d, .store t x y, ty, pos, after, g⟩ (fun _ w' => SS G0 w0 G (M.set j (.row oa n c T sz (xs.set k v))) w') :=
  opk_skip fun a ha => by
    obtain ⟨h1, h2, h3⟩ := hS.rstore v hj hk
    refine ⟨_, ?_, h3⟩
    have := run_storeVar1 (P := P) (w := w) (t := t) (p := elA oa k) (v := v) ht rfl hv h1 h2
    simp [execOp, ha.ev hx, ha.ev hy, this]
theorem set_self {α : Type} {l : List α} {i : Nat} {x : α} (h : l[i]? = some x) : l.set i x = l := by
  apply List.ext_getElem?
  intro j
  by_cases hij : i = j
  · subst hij
    rw [List.getElem?_set_self (List.getElem?_eq_some_iff.1 h).1, h]
  · rw [List.getElem?_set_ne hij]
theorem SS.setAll (b j : Nat) (T : TypeId) : ∀ (vs pre old : List Value) (w : World) (M : List Ent), SS G0 w0 G M w → M[j]? = some (.blk b T (pre ++ old)) → old.length = vs.length → (∀ v ∈ vs, v.oneCell' = true) →
    ∃ w', (storeCells ⟨b, 0, none⟩ vs pre.length).run P w = .ok () w' ∧ SS G0 w0 G (M.set j (.blk b T (pre ++ vs))) w'
  | [], pre, old, w, M, h, hj, hl, _ => by
    have : old = [] := List.eq_nil_of_length_eq_zero (by simpa using hl)
    subst this
    refine ⟨w, by simp [storeCells], ?_⟩
    rwa [set_self hj]
  | v :: vs, pre, old, w, M, h, hj, hl, hv => by
    cases old with
    | nil => simp at hl
    | cons o old =>
      have h1 := h.bstore (k := pre.length) v hj
      have hset : (pre ++ o :: old).set pre.length v = (pre ++ [v]) ++ old := by simp
      rw [hset] at h1
      have hjl : j < M.length := (List.getElem?_eq_some_iff.1 hj).1
      obtain ⟨w', hr, hs⟩ := SS.setAll b j T vs (pre ++ [v]) old _ _ h1 (by rw [List.getElem?_set_self hjl]) (by simpa using hl) (fun u hu => hv u (by simp [hu]))
      refine ⟨w', ?_, ?_⟩
      · have hst := run_store P w ((⟨b, 0, none⟩ : Addr).add pre.length) v .plain (hv v (by simp))
        rw [h.bcell hj, h.bfrozen hj] at hst
        simp at hst
        simp only [storeCells, Sem.run_bind, hst, Result.andThen_ok]
        simpa using hr
      · simpa using hs
theorem op_storeN {t : TypeId} {x y : Operand} {b j : Nat} {T : TypeId} {cs vs : List Value} {n : Nat} (hS : SS G0 w0 G M w) (ht : TSz P t n) (hj : M[j]? = some (.blk b T cs)) (hx : ev e x = some (.pointer (some ⟨b, 0, none⟩))) (hy : ev e y = some (.agg vs.toArray)) (hn : vs.length = n) (hl : cs.length = n) (hv : ∀ v ∈ vs, v.oneCell' = true) :
    OpK P N e w ⟨d, .store t x y, ty, pos, after, g⟩ (fun _ w' => SS G0 w0 G (M.set j (.blk b T vs)) w') :=
  opk_skip fun a ha => by
    obtain ⟨i, hi, hs⟩ := ht
    obtain ⟨w', hr, hs'⟩ := SS.setAll (P := P) b j T vs [] cs w M hS (by simpa using hj) (by omega) hv
    refine ⟨w', ?_, by simpa using hs'⟩
    simp only [List.length_nil] at hr
    simp [execOp, ha.ev hx, ha.ev hy, Instr.storeAt, Instr.sureAddr, storeVar, sizeOf, typeInfo, hi, hs, Value.cells, hn, hr]
end
end Go.Proofs.Ytnmkffkalnkbbaa.K
