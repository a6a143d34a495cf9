/-
  Arguments that are two small numbers in a row of fixed length; places in it.
  It speaks of any program. No condition.
-/
import Derived.Test.YtnmkffkalnkbbaaOpen
import Derived.Test.YtnmkffkalnkbbaaClr
namespace Go.Proofs.Ytnmkffkalnkbbaa.K
open Go Go.RowKit Go.ChangeShapes Go.WideShapes Go.ChangeAt
section
variable {P : Program} {w : World} {t e : TypeId} {H : Type} {enc : TypeId × Value → H} {d : DataW H} {p : List MemPlace} {v : Value} {r : Reach} {base : Nat}
theorem open_u8x2 (h : P.underlying t = some (.array 2 e)) (he : P.underlying e = some (.int .u8)) (hc : P.cellsOf e = 1) (hC : P.cellsOf t = 2) (hv : Value.okWide P w r base t v) (hd : DataW.Trod enc P w 0 (fun _ => true) true t v d p) :
    ∃ a b : Int, v = .agg #[.int .u8 a, .int .u8 b] ∧ (0 ≤ a ∧ a ≤ 255) ∧ 0 ≤ b ∧ b ≤ 255 := by
  simp only [Value.okWide, h] at hv
  obtain ⟨cs, rfl, h2, _⟩ := hv
  obtain ⟨fuel, hf⟩ := hd
  have h3 : cs.toList.length = 2 := by rw [Array.length_toList, h2, hC]
  obtain ⟨x, y, hxy⟩ : ∃ x y, cs.toList = [x, y] := by
    match hcs : cs.toList, h3 with
    | [x, y], _ => exact ⟨x, y, rfl⟩
  cases fuel with
  | zero => simp [DataW.trod] at hf
  | succ m =>
    unfold DataW.trod at hf
    rw [h] at hf
    simp only [Value.cells, hxy, hC, hc, List.length_cons, List.length_nil, if_true, Option.map_eq_some_iff] at hf
    obtain ⟨ys, hy, _⟩ := hf
    have g0 := mapM_some_get hy 0 0 (by simp)
    have g1 := mapM_some_get hy 1 1 (by simp)
    have hl := mapM_some_length hy
    simp only [List.length_range] at hl
    rw [List.getElem?_eq_getElem (by omega)] at g0 g1
    obtain ⟨a, ha, _, hwa⟩ := DataW.trod_int he g0
    obtain ⟨b, hb, _, hwb⟩ := DataW.trod_int he g1
    simp only [Nat.zero_mul, Nat.one_mul, List.drop_zero, List.take_succ_cons, List.take_zero, List.drop_succ_cons, List.cons.injEq, and_true] at ha hb
    subst ha
    subst hb
    refine ⟨a, b, ?_, ?_, ?_⟩
    · have : cs = #[.int .u8 a, .int .u8 b] := by
        apply Array.ext'
        rw [hxy]
      rw [this]
    · simpa [Lit.wf, IntKind.min, IntKind.max, IntKind.signed, IntKind.bits] using hwa
    · simpa [Lit.wf, IntKind.min, IntKind.max, IntKind.signed, IntKind.bits] using hwb
end
theorem op_indexArr {P : Program} {N : Nat} {e : Env} {d : Option Tmp} {ty : TypeId} {pos : String} {after : Array Edge} {g : Option (Nat × Bool)} {t el : TypeId} {n : Nat} {x y : Operand} {p : Addr} {k : IntKind} {i : Int} (ht : P.underlying t = some (.array n el)) (hs1 : TSz P el 1) (hx : ev e x = some (.pointer (some p))) (hy : ev e y = some (.int k i)) (h0 : 0 ≤ i) (h1 : i < n) :
    OpP P N e ⟨d, .indexAddr t x y, ty, pos, after, g⟩ (.pointer (some (p.add i.toNat))) := fun a ha w => by
  obtain ⟨inf, hi, hs⟩ := hs1
  simp [execOp, Instr.indexAt, Instr.sureAddr, asIntOf, sizeOf, typeInfo, ha.ev hx, ha.ev hy, run_underlying ht, h0, h1, hi, hs]
end Go.Proofs.Ytnmkffkalnkbbaa.K
