/-
  Cells that are cleared; rows that are cut short; slices held against nil.
  It speaks of any program. No condition.
-/
import Derived.Test.YtnmkffkalnkbbaaMap
import Derived.Lib.SliceRun
namespace Go.Proofs.Ytnmkffkalnkbbaa.K
open Go Go.RowKit
section
variable {P : Program} {N : Nat} {e : Env} {w w0 : World} {G0 G : GH} {M : List Ent} {d : Option Tmp} {ty : TypeId} {pos : String} {after : Array Edge} {g : Option (Nat × Bool)}
theorem op_eqlNil {t el : TypeId} {sz : Nat} {x y : Operand} {oa : Option Addr} {n c n' c' : Nat} {t' : TypeId} (ht : TSl P t el sz) (hx : ev e x = some (.slice oa n c)) (hy : ev e y = some (.slice none n' c')) : OpP P N e ⟨d, .binOp .eql t x y t', ty, pos, after, g⟩ (.bool oa.isNone) := fun a ha w => by
  have := Go.Lib.run_eql_slice_nil (P := P) w t el oa n c n' c' ht.1
  simp [execOp, eqGuard, ha.ev hx, ha.ev hy, this]
theorem op_fieldAddr2 {s : TypeId} {x : Operand} {p : Addr} {k off o q : Nat} (hf : TFld P s k off) (hx : ev e x = some (.pointer (some (p.add o)))) (hq : o + off = q) : OpP P N e ⟨d, .fieldAddr s x k, ty, pos, after, g⟩ (.pointer (some (p.add q))) :=
  op_val (op_fieldAddr hf hx) (by rw [add_add', hq])
theorem op_field {s : TypeId} {x : Operand} {k : Nat} {fs : Array Field} {f : Field} {cs : List Value} {v : Value} (hu : P.underlying s = some (.struct fs)) (hk : fs[k]? = some f) (h1 : TOne P f.type) (hx : ev e x = some (.agg cs.toArray)) (hv : cs[f.offset]? = some v) : OpP P N e ⟨d, .field s x k, ty, pos, after, g⟩ v := fun a ha w => by
  obtain ⟨dd, hd, hag⟩ := h1
  have hia : (isAgg f.type).run P w = .ok false w := by
    unfold isAgg
    simp only [Sem.run_bind, run_underlying hd, Result.andThen_ok]
    cases dd <;> first | rfl | cases hag
  simp [execOp, Instr.field, ha.ev hx, run_underlying hu, hk, asAgg, part, hia, hv]
theorem op_clear {t el : TypeId} {z : Value} {by_ j k nl cd : Nat} {x : Operand} {oa od : Option Addr} {n c : Nat} {xs : List Value} {ts : Array TypeId} (hS : SS G0 w0 G M w) (ht : TSl P t el 1) (hz : TEl P el z 1 by_) (hzc : z.cells = #[z]) (hz1 : z.oneCell' = true) (hts : ts = #[t]) (hj : M[j]? = some (.row oa n c el 1 xs))
    (hx : ev e x = some (.slice od nl cd)) (hnl : k + nl = n) (hod : nl = 0 ∨ od = oa.map (·.add k)) :
    OpK P N e w ⟨d, .call ⟨.builtin .clear, #[x], ts⟩, ty, pos, after, g⟩ (fun _ w' => SS G0 w0 G (M.set j (.row oa n c el 1 (xs.take k ++ List.replicate nl z))) w') :=
  opk_run fun a ha => by
    subst hts
    obtain ⟨hu, _⟩ := ht
    have hr : RowIn w oa n c el 1 xs := hS.own _ (List.mem_of_getElem? hj)
    obtain ⟨hl, hnc, hcm, hrow⟩ := hr
    have hset0 : nl = 0 → M.set j (.row oa n c el 1 (xs.take k ++ List.replicate nl z)) = M := fun h0 => by
      rw [h0, List.replicate_zero, List.append_nil, List.take_of_length_le (by omega)]
      exact set_self hj
    by_cases h0 : nl = 0
    · rw [hset0 h0]
      subst h0
      refine ⟨.tuple #[], w, ?_, hS⟩
      cases od <;> simp [execOp, resolve, invoke, builtin, Builtin.clear_, ha.ev hx, run_underlying hu]
    · have hod : od = oa.map (·.add k) := hod.resolve_left h0
      rcases hrow with ⟨rfl, rfl⟩ | ⟨gb, off, cur, rfl, hg, hcs, hcell⟩
      · omega
      · have hod : od = some ⟨gb, off + k, none⟩ := by rw [hod, Option.map_some, Addr.add_lit]
        subst hod
        have hzz : (Builtin.zeroCells z.cells nl).toList = List.replicate nl z := by
          rw [hzc]
          simp [Builtin.zeroCells]
          apply List.ext_getElem
          · simp
          · intro i h1 h2
            simp [Nat.mod_one]
        have hst := Go.run_storeCells_at (P := P) gb (off + k) el (List.replicate nl z) 0 cur w hg (by simp; omega) (by intro v hv; rw [List.eq_of_mem_replicate hv]; exact hz1)
        refine ⟨.tuple #[], w.setRow gb (cur.toList.take (off + k) ++ List.replicate nl z ++ cur.toList.drop (off + k + nl)).toArray, ?_, hS.turn hj (fun q _ hne => setRow_other w gb q _ (fun hh => hne (by simp [Ent.fp, hh]))) (by simp) rfl rfl rfl ?_ (fun b hb => .inl hb)⟩
        · obtain ⟨m, rfl⟩ : ∃ m, nl = m + 1 := ⟨nl - 1, by omega⟩
          simp only [Nat.add_zero, List.length_replicate] at hst
          simp [execOp, resolve, invoke, builtin, Builtin.clear_, ha.ev hx, run_underlying hu, zero_run hz, hzz, hst]
        · refine ⟨by simp; omega, hnc, hcm, .inr ⟨gb, off, _, rfl, setRow_heap w gb cur _ el _ hg, by simp; omega, fun q u hq => ?_⟩⟩
          rw [List.getElem?_toArray]
          by_cases hq1 : q < k
          · rw [List.getElem?_append_left (by simp; omega), List.getElem?_take, if_pos hq1] at hq
            rw [List.append_assoc, List.getElem?_append_left (by simp; omega), List.getElem?_take, if_pos (by omega)]
            simpa using hcell q u hq
          · have hkl : (xs.take k).length = k := by simp; omega
            rw [List.getElem?_append_right (by omega), hkl] at hq
            have hq2 : q - k < nl := by
              have := (List.getElem?_eq_some_iff.1 hq).1
              simpa using this
            have htl : (cur.toList.take (off + k)).length = off + k := by simp; omega
            rw [List.append_assoc, List.getElem?_append_right (by omega), htl, List.getElem?_append_left (by simp; omega), show off + q - (off + k) = q - k from by omega]
            exact hq
theorem SS.shorten (h : SS G0 w0 G M w) {j : Nat} {oa : Option Addr} {n c : Nat} {T : TypeId} {sz : Nat} {xs : List Value} (hj : M[j]? = some (.row oa n c T sz xs)) {i : Nat} (hi : i ≤ n) : SS G0 w0 G (M.set j (.row oa i c T sz (xs.take (i * sz)))) w := by
  have hr : RowIn w oa n c T sz xs := h.own _ (List.mem_of_getElem? hj)
  obtain ⟨hl, hnc, hcm, hrow⟩ := hr
  refine h.turn hj (fun _ _ _ => rfl) (Nat.le_refl _) rfl rfl rfl ?_ (fun b hb => .inl hb)
  have hm : i * sz ≤ n * sz := Nat.mul_le_mul_right _ hi
  refine ⟨by simp; omega, by omega, hcm, ?_⟩
  rcases hrow with ⟨rfl, rfl⟩ | ⟨gb, off, cur, rfl, hg, hcs, hcell⟩
  · exact .inl ⟨rfl, rfl⟩
  · exact .inr ⟨gb, off, cur, rfl, hg, hcs, fun q u hq => hcell q u (by rw [List.getElem?_take] at hq; split at hq <;> simp_all)⟩
end
end Go.Proofs.Ytnmkffkalnkbbaa.K
