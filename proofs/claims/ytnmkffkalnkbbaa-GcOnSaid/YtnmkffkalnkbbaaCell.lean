/-
  The kit's fifth text: structs of a number, a string and a number, that are compared; how they are read.
  It speaks of any program. No condition.
-/
import Derived.Test.YtnmkffkalnkbbaaRead
import Derived.Laws.StructEq
import Derived.Laws.BytesString
import Derived.Laws.BitsLemmas
namespace Go.Proofs.Ytnmkffkalnkbbaa.K
open Go Go.RowKit

structure TCell (P : Program) (t : TypeId) : Prop where
  und : ∃ f g h : Field, P.underlying t = some (.struct #[f, g, h]) ∧ P.underlying f.type = some (.int .i64) ∧ P.underlying g.type = some .string ∧ P.underlying h.type = some (.int .i64) ∧ f.offset = 0 ∧ g.offset = 1 ∧ h.offset = 2 ∧ f.name ≠ "_" ∧ g.name ≠ "_" ∧ h.name ≠ "_"
  held : P.stoodInHeld t = false
  guard : P.eqGuardType P.depth t = false

section
variable {P : Program} {N : Nat} {e : Env} {w : World} {d : Option Tmp} {ty : TypeId} {pos : String} {after : Array Edge} {g : Option (Nat × Bool)}
theorem run_part1 {t : TypeId} {s : TypeDesc} {xs : Array Value} {off : Nat} {v : Value} (ht : P.underlying t = some s) (hs : (match s with | .struct _ | .array _ _ => true | _ => false) = false) (hv : xs[off]? = some v) : (part t xs off).run P w = .ok v w := by
  have : (isAgg t).run P w = .ok false w := by
    cases s <;> simp_all [isAgg, run_underlying ht]
  simp [part, this, hv]
theorem run_eqC {t : TypeId} (ht : TCell P t) {k n k' n' : Int} {s s' : ByteArray} (w : World) : (Op.equalIn 10000 t (.agg #[.int .i64 k, .string s, .int .i64 n]) (.agg #[.int .i64 k', .string s', .int .i64 n'])).run P w = .ok (decide (k = k') && (s.toList == s'.toList) && decide (n = n')) w := by
  obtain ⟨f, g, h, hu, h1, h2, h3, o1, o2, o3, n1, n2, n3⟩ := ht.und
  have hf : P.fieldsOf t = #[f, g, h] := by simp [Program.fieldsOf, hu]
  rw [run_equalIn_struct w 9999 t _ _ (by rw [hf]; exact hu) ht.held, hf]
  have p1 : ∀ (v a b : Value), (part f.type #[v, a, b] f.offset).run P w = .ok v w := fun v a b => run_part1 h1 rfl (by rw [o1]; rfl)
  have p2 : ∀ (v a b : Value), (part g.type #[a, v, b] g.offset).run P w = .ok v w := fun v a b => run_part1 h2 rfl (by rw [o2]; rfl)
  have p3 : ∀ (v a b : Value), (part h.type #[a, b, v] h.offset).run P w = .ok v w := fun v a b => run_part1 h3 rfl (by rw [o3]; rfl)
  have e1 : (Op.equalIn 9999 f.type (.int .i64 k) (.int .i64 k')).run P w = .ok (k == k') w := run_equalIn_int (P := P) w 9998 f.type .i64 .i64 k k' h1
  have e2 : (Op.equalIn 9999 g.type (.string s) (.string s')).run P w = .ok (s.toList == s'.toList) w := run_equalIn_string (P := P) w 9998 g.type s s' h2
  have e3 : (Op.equalIn 9999 h.type (.int .i64 n) (.int .i64 n')).run P w = .ok (n == n') w := run_equalIn_int (P := P) w 9998 h.type .i64 .i64 n n' h3
  simp only [Op.eqFields, ne_eq, n1, n2, n3, not_false_eq_true, if_true, Sem.run_bind, p1, e1, Result.andThen_ok]
  by_cases hk : (k == k') = true
  · simp only [hk, Bool.not_true, Bool.false_eq_true, if_false, Sem.run_bind, p2, e2, Result.andThen_ok]
    by_cases hs : (s.toList == s'.toList) = true
    · simp only [hs, Bool.not_true, Bool.false_eq_true, if_false, Sem.run_bind, p3, e3, Result.andThen_ok]
      by_cases hn : (n == n') = true
      · simp [eq_of_beq hk, eq_of_beq hn]
      · have hn' : ¬ n = n' := by simpa using hn
        simp [hn']
    · simp [hs]
  · have hk' : ¬ k = k' := by simpa using hk
    simp [hk']
theorem op_eqlC {t t' : TypeId} {x y : Operand} (ht : TCell P t) {k n k' n' : Int} {s s' : ByteArray} (hx : ev e x = some (.agg #[.int .i64 k, .string s, .int .i64 n])) (hy : ev e y = some (.agg #[.int .i64 k', .string s', .int .i64 n'])) : OpP P N e ⟨d, .binOp .eql t x y t', ty, pos, after, g⟩ (.bool (decide (k = k') && (s.toList == s'.toList) && decide (n = n'))) := fun a ha w => by
  simp [execOp, ha.ev hx, ha.ev hy, run_eqGuard_agg (P := P) w .eql t x y _ _ ht.guard, run_eql_struct, run_eqC ht w]
theorem op_neqC {t t' : TypeId} {x y : Operand} (ht : TCell P t) {k n k' n' : Int} {s s' : ByteArray} (hx : ev e x = some (.agg #[.int .i64 k, .string s, .int .i64 n])) (hy : ev e y = some (.agg #[.int .i64 k', .string s', .int .i64 n'])) : OpP P N e ⟨d, .binOp .neq t x y t', ty, pos, after, g⟩ (.bool (!(decide (k = k') && (s.toList == s'.toList) && decide (n = n')))) := fun a ha w => by
  simp [execOp, ha.ev hx, ha.ev hy, run_eqGuard_agg (P := P) w .neq t x y _ _ ht.guard, run_neq_struct, run_eqC ht w]
def strOf (ns : List Int) : ByteArray := ns.foldl (fun r n => r.push (UInt8.ofNat n.toNat)) ByteArray.empty
theorem op_convBS {S : World → Prop} {t t' el : TypeId} {x : Operand} {oa : Option Addr} {n c : Nat} (ns : List Int) (ht : P.underlying t = some (.slice el)) (he : P.underlying el = some (.int .u8)) (hd : P.underlying t' = some .string) (hx : ev e x = some (.slice oa n c)) (hn : ns.length = n) (hpos : 0 < n)
    (hc : ∀ w, S w → ∀ (k : Nat) (u : Value), (ns.map (Value.int .u8))[k]? = some u → oa.isSome = true ∧ w.cell? (elA oa k) = some u) : OpL P N e S ⟨d, .convert t t' x, ty, pos, after, g⟩ (.string (strOf ns)) := fun a ha w hw => by
  have h0 := hc w hw
  have h1 : 0 < (ns.map (Value.int .u8)).length := by simp; omega
  have hoa := (h0 0 _ (List.getElem?_eq_getElem h1)).1
  cases oa with
  | none => cases hoa
  | some b =>
    have hl := run_loadCells_list (P := P) w b (ns.map (Value.int .u8)) (fun k u hu => (h0 k u hu).2)
    rw [show (ns.map (Value.int .u8)).length = n from by simp [hn]] at hl
    have h2 := run_bytesToString (P := P) w b n c ns hl
    simp [execOp, ha.ev hx, run_convert_bytes_string (P := P) w t t' el _ n c ht he hd, h2, strOf]
theorem calls_t {f : FuncId} {vs : Array Value} {b : Bool} {w : World} (h : b = true) (hc : Calls P f vs w (Sc w (.bool b))) : Calls P f vs w (Sc w (.bool true)) := h ▸ hc
/-- A reader that tells nothing. -/
def ETriv : ER Unit := fun _ _ _ => True
theorem ETriv.mono : EMono ETriv := fun _ _ _ _ _ h => h
end
/-- Closed facts of a program that the kernel looks at. -/
theorem cell_of {P : Program} {t : TypeId} {f g h : Field} (hu : P.underlying t = some (.struct #[f, g, h])) (h1 : P.underlying f.type = some (.int .i64)) (h2 : P.underlying g.type = some .string) (h3 : P.underlying h.type = some (.int .i64)) (ho : f.offset = 0 ∧ g.offset = 1 ∧ h.offset = 2) (hn : f.name ≠ "_" ∧ g.name ≠ "_" ∧ h.name ≠ "_") (held : P.stoodInHeld t = false) (guard : P.eqGuardType P.depth t = false) : TCell P t :=
  ⟨⟨f, g, h, hu, h1, h2, h3, ho.1, ho.2.1, ho.2.2, hn.1, hn.2.1, hn.2.2⟩, held, guard⟩
end Go.Proofs.Ytnmkffkalnkbbaa.K
