/-
  What follows by rules that may be taken: the function from of layer wfm.
  No condition but the premises that each theorem names.
-/
import Derived.Test.YtmkgechdfimfnaaChain
import Derived.Test.YtmkgechdfimfnaaPlc
namespace Go.Proofs.Ytmkgechdfimfnaa.K
open Go Go.RowKit
set_option linter.unusedVariables false
set_option linter.unusedSimpArgs false

open Pl
theorem whdr_set (W : List WRow) (p : Nat) (x : WRow) : (W.map whdr).set p (whdr x) = (W.set p x).map whdr := by rw [List.map_set]
theorem wrow_set (W : List WRow) (p : Nat) (x : WRow) : (W.map wrow).set p (wrow x) = (W.set p x).map wrow := by rw [List.map_set]
theorem wget {W : List WRow} {p : Nat} (h : p < W.length) (A M : List Ent) : (A ++ (W.map wrow ++ M))[A.length + p]? = some (wrow W[p]) := by
  rw [List.getElem?_append_right (by omega), show A.length + p - A.length = p from by omega, List.getElem?_append_left (by simpa using h)]
  simp [h]
theorem wset {W : List WRow} {p : Nat} (h : p < W.length) (A M : List Ent) (x : WRow) : (A ++ (W.map wrow ++ M)).set (A.length + p) (wrow x) = A ++ ((W.set p x).map wrow ++ M) := by
  rw [List.set_append_right _ _ (by omega), show A.length + p - A.length = p from by omega, List.set_append_left _ _ (by simpa using h), wrow_set]

set_option maxRecDepth 100000 in
set_option maxHeartbeats 1000000 in

theorem wfm_from_c {α : Type} {E : ER α} (G : GH) (w0 : World) (hG : Holds G w0) (va vr : Value) (atoms : List α) (rs : List Rule) (h1 : RSl 1 E G va atoms) (h2 : RSl 3 ERule G vr rs) (mayB : Rule → Bool) (fid : FuncId) (caps : List Value) (hcf : CF Try.prog fid) (hmay : ∀ w, Below w0.heap.size w0 w → ∀ r ∈ rs, ∀ p q, RSl 1 EInt (fullG w) p r.pos → RSl 1 EInt (fullG w) q r.neg → Calls Try.prog fid (.agg #[.int .i64 r.head, p, q] :: caps).toArray w (Sc w (.bool (mayB r)))) (hn : atoms.length ≤ 1000) (hm : rs.length ≤ 1000) (hr : ∀ r ∈ rs, RuleOk atoms.length r ∧ r.pos.length ≤ 1000) :
   Calls Try.prog 61 #[.agg #[va, vr], .func (.func fid) #[] caps.toArray] w0 (Rt noG w0 (fun G v => RSl 1 EBool G v (leastB atoms.length (rs.filter mayB)))) := by
 obtain ⟨oA, cA, rfl, hlA, hmA⟩ := h1.elim
 obtain ⟨oR, cR, rfl, hlR, hmR⟩ := h2.elim
 have hrs : ∀ r ∈ rs.filter mayB, RuleOk atoms.length r := fun r hx => (hr r ((List.mem_filter.1 hx).1)).1
 have hfl : ∀ k, ((rs.take k).filter mayB).length ≤ 1000 := fun k => Nat.le_trans (filter_take_len mayB rs k) hm
 refine enter Try.func61 rfl (N := 139) rfl (Nat.le_of_ble_eq_true rfl) ?_
 have hS := SS.init hG
 refine cw_seq ?_
 refine cw_region ?_
 refine ol_step rfl (op_box hS rfl rfl) ?_
 clear hS
 rintro _ w ⟨b2, rfl, hS⟩
 refine ol_pure rfl (op_assign rfl) ?_
 refine ol_nil ?_
 refine pq_then ?_
 refine cw_cut (fun e w => ∃ b5 h W, e = [(1, .func (.func fid) #[] caps.toArray), (2, .pointer (some ⟨b2, 0, none⟩)), (5, .pointer (some ⟨b5, 0, none⟩))] ∧ SS G w0 G (ChS b5 (Ch.start atoms.length) h W ++ [.blk b2 26 [.slice oA atoms.length cA, .slice oR rs.length cR]]) w ∧ (Ch.start atoms.length).who = W.map (·.2.2)) ?_ ?_
 ·
  skip
  refine al_start' hS (hS.take 1) (by kernel_rfl) rfl (fun w hS hT => ?_)
  refine al_take (i := 0) rfl (by kernel_rfl) (by kernel_rfl) (by kernel_rfl) rfl (fun _ _ _ h => h) (op_fieldAddr fld_26_0 rfl) rfl ?_
  refine al_load (i := 1) rfl (by kernel_rfl) (by kernel_rfl) (by kernel_rfl) rfl (fun _ _ _ h => h) (by exact op_load1 one_24 rfl (fun w hw => (hw.bcell (i := 0) rfl).trans rfl)) rfl hT ?_
  refine al_take (i := 2) rfl (by kernel_rfl) (by kernel_rfl) (by kernel_rfl) rfl (fun _ _ _ h => h) (op_len sl_24 rfl rfl) rfl ?_
  refine al_take (i := 4) rfl (by kernel_rfl) (by kernel_rfl) (by kernel_rfl) rfl (fun _ _ _ h => h) (op_fieldAddr fld_26_0 rfl) rfl ?_
  refine al_load (i := 5) rfl (by kernel_rfl) (by kernel_rfl) (by kernel_rfl) rfl (fun _ _ _ h => h) (by exact op_load1 one_24 rfl (fun w hw => (hw.bcell (i := 0) rfl).trans rfl)) rfl hT ?_
  refine al_take (i := 6) rfl (by kernel_rfl) (by kernel_rfl) (by kernel_rfl) rfl (fun _ _ _ h => h) (op_len sl_24 rfl rfl) rfl ?_
  refine al_two (i := 3) (j := 7) (by kernel_rfl) (fun a ha => ?_) (fun a ha => ?_)
  ·
   skip
   refine wpOp_of_opk (i := 3) rfl ha (op_makeSlice (n := atoms.length) hS sl_49 el_4 rfl rfl rfl (by omega) (by unfold maxLen; omega)) ?_
   clear hS
   rintro _ w ⟨out, rfl, hS⟩
   have hT := hT.back hS (by first | exact Le.refl _ | assumption) (fun x hx => by try simp only [List.take_succ_cons, List.take_zero, List.mem_cons, List.not_mem_nil, or_false] at hx; (rcases hx with rfl) <;> simp)
   refine ⟨fun _ _ => hT, ?_⟩
   refine al_at ?_ (ha.put (blt_lt rfl) _)
   refine al_step (i := 7) rfl (by kernel_rfl) rfl (op_makeSlice (n := atoms.length) hS sl_90 el_28 rfl rfl rfl (by omega) (by unfold maxLen; omega)) ?_
   clear hS
   rintro _ w ⟨who, rfl, hS⟩
   have hT := hT.back hS (by first | exact Le.refl _ | assumption) (fun x hx => by try simp only [List.take_succ_cons, List.take_zero, List.mem_cons, List.not_mem_nil, or_false] at hx; (rcases hx with rfl) <;> simp)
   refine ⟨fun _ _ => hT, ?_⟩
   refine al_take (i := 8) rfl (by kernel_rfl) (by kernel_rfl) (by kernel_rfl) rfl (fun _ _ _ h => h) (op_build (is := [0, 2]) (xs := [.tmp 18, .tmp 22]) (v := .agg #[.slice out atoms.length atoms.length, .slice none 0 0, .slice who atoms.length atoms.length, .slice none 0 0, .slice none 0 0]) rfl rfl (fun w => by kernel_rfl)) rfl ?_
   refine al_step (i := 9) rfl (by kernel_rfl) rfl (op_box hS rfl rfl) ?_
   clear hS
   rintro _ w ⟨b5, rfl, hS⟩
   have hT := hT.back hS (by first | exact Le.refl _ | assumption) (fun x hx => by try simp only [List.take_succ_cons, List.take_zero, List.mem_cons, List.not_mem_nil, or_false] at hx; (rcases hx with rfl) <;> simp)
   refine ⟨fun _ _ => hT, ?_⟩
   refine al_take (i := 10) rfl (by kernel_rfl) (by kernel_rfl) (by kernel_rfl) rfl (fun _ _ _ h => h) (op_assign rfl) rfl ?_
   refine al_done (by kernel_rfl) ?_
   replace hS := SS.swap [_] hS
   refine pq_cut _ (by exact (by
       replace hS := SS.ins [_, _] hS 3 1
       replace hS := SS.ins [_, _, _, _] hS 3 1
       replace hS := SS.ins [_, _, _, _, _] hS 3 1
       replace hS := SS.insN [_, _, _, _, _, _] hS 3 1 atoms.length
       refine ⟨b5, ⟨out, none, who, none, none, atoms.length, 0, atoms.length, 0, 0⟩, List.replicate atoms.length (none, 0, []), rfl, ?_, ?_⟩
       · unfold ChS
         simpa [Ch.start, whdr, wrow] using hS
       · simp [Ch.start])) ((Sub.cons rfl (Sub.cons rfl (Sub.cons rfl Sub.nil))))
  ·
   skip
   refine wpOp_of_opk (i := 7) rfl ha (op_makeSlice (n := atoms.length) hS sl_90 el_28 rfl rfl rfl (by omega) (by unfold maxLen; omega)) ?_
   clear hS
   rintro _ w ⟨who, rfl, hS⟩
   have hT := hT.back hS (by first | exact Le.refl _ | assumption) (fun x hx => by try simp only [List.take_succ_cons, List.take_zero, List.mem_cons, List.not_mem_nil, or_false] at hx; (rcases hx with rfl) <;> simp)
   refine ⟨fun _ _ => hT, ?_⟩
   refine al_at ?_ (ha.put (blt_lt rfl) _)
   refine al_step (i := 3) rfl (by kernel_rfl) rfl (op_makeSlice (n := atoms.length) hS sl_49 el_4 rfl rfl rfl (by omega) (by unfold maxLen; omega)) ?_
   clear hS
   rintro _ w ⟨out, rfl, hS⟩
   have hT := hT.back hS (by first | exact Le.refl _ | assumption) (fun x hx => by try simp only [List.take_succ_cons, List.take_zero, List.mem_cons, List.not_mem_nil, or_false] at hx; (rcases hx with rfl) <;> simp)
   refine ⟨fun _ _ => hT, ?_⟩
   refine al_take (i := 8) rfl (by kernel_rfl) (by kernel_rfl) (by kernel_rfl) rfl (fun _ _ _ h => h) (op_build (is := [0, 2]) (xs := [.tmp 18, .tmp 22]) (v := .agg #[.slice out atoms.length atoms.length, .slice none 0 0, .slice who atoms.length atoms.length, .slice none 0 0, .slice none 0 0]) rfl rfl (fun w => by kernel_rfl)) rfl ?_
   refine al_step (i := 9) rfl (by kernel_rfl) rfl (op_box hS rfl rfl) ?_
   clear hS
   rintro _ w ⟨b5, rfl, hS⟩
   have hT := hT.back hS (by first | exact Le.refl _ | assumption) (fun x hx => by try simp only [List.take_succ_cons, List.take_zero, List.mem_cons, List.not_mem_nil, or_false] at hx; (rcases hx with rfl) <;> simp)
   refine ⟨fun _ _ => hT, ?_⟩
   refine al_take (i := 10) rfl (by kernel_rfl) (by kernel_rfl) (by kernel_rfl) rfl (fun _ _ _ h => h) (op_assign rfl) rfl ?_
   refine al_done (by kernel_rfl) ?_
   refine pq_cut _ (by exact (by
       replace hS := SS.ins [_, _] hS 3 1
       replace hS := SS.ins [_, _, _, _] hS 3 1
       replace hS := SS.ins [_, _, _, _, _] hS 3 1
       replace hS := SS.insN [_, _, _, _, _, _] hS 3 1 atoms.length
       refine ⟨b5, ⟨out, none, who, none, none, atoms.length, 0, atoms.length, 0, 0⟩, List.replicate atoms.length (none, 0, []), rfl, ?_, ?_⟩
       · unfold ChS
         simpa [Ch.start, whdr, wrow] using hS
       · simp [Ch.start])) ((Sub.cons rfl (Sub.cons rfl (Sub.cons rfl Sub.nil))))
 clear hS
 rintro e w ⟨b5, h, W, rfl, hS, hW⟩
 refine cw_seq ?_
 refine cw_seq ?_
 refine cw_region ?_
 refine ol_pure rfl (op_fieldAddr fld_26_1 rfl) ?_
 have hb2 : (ChS b5 (Ch.start atoms.length) h W ++ [.blk b2 26 [.slice oA atoms.length cA, .slice oR rs.length cR]])[6 + W.length]? = some (.blk b2 26 [.slice oA atoms.length cA, .slice oR rs.length cR]) := by
   unfold ChS
   rw [List.append_assoc, List.getElem?_append_right (by simp)]
   simp
 refine ol_load rfl (by exact op_load1 one_22 rfl (fun w hw => (hw.bcell (i := 6 + W.length) hb2).trans rfl)) hS ?_
 refine ol_pure rfl (op_len sl_22 rfl rfl) ?_
 refine ol_pure rfl (op_move rfl) ?_
 refine ol_nil ?_
 refine pq_then ?_
 refine cw_block ?_
 refine cw_loop (fun e w n => ∃ k c h W, e = [(1, .func (.func fid) #[] caps.toArray), (5, .pointer (some ⟨b5, 0, none⟩)), (26, .slice oR rs.length cR), (27, .int .i64 (rs.length : Nat)), (28, .int .i64 (k : Nat))] ∧ k ≤ rs.length ∧ n = rs.length - k ∧ Inv atoms.length ((rs.take k).filter mayB) noD c ∧ SS G w0 G (ChS b5 c h W ++ [.blk b2 26 [.slice oA atoms.length cA, .slice oR rs.length cR]]) w ∧ c.who = W.map (·.2.2)) _ _ (by exact ⟨0, _, h, W, rfl, Nat.zero_le _, rfl, Inv.start _, hS, hW⟩) ((Sub.cons rfl (Sub.cons rfl (Sub.cons rfl (Sub.cons rfl (Sub.cons rfl Sub.nil)))))) ?_
 clear hS
 rintro e w n ⟨k, c, h, W, rfl, hk, rfl, hI, hS, hW⟩
 refine cw_seq ?_
 refine cw_region ?_
 refine ol_pure rfl (op_lss rfl rfl) ?_
 refine ol_nil ?_
 refine pq_then ?_
 refine cw_seq ?_
 refine cw_cond rfl (fun h29 => ?_) (fun h29 => ?_)
 ·
  skip
  try simp only [decide_eq_true_eq, decide_eq_false_iff_not, Bool.not_eq_true', Bool.not_eq_false', Bool.not_eq_eq_eq_not, Bool.not_true, Bool.not_false] at h29
  have hlt : k < rs.length := by omega
  have hrk := hr _ (List.getElem_mem hlt)
  obtain ⟨hoa, cs, hcl, ⟨p, q, rfl, hp, hq, hhd⟩, hcells⟩ := h2.el hlt
  obtain ⟨op, cp, hpe, hlp, hmp⟩ := hp.elim
  obtain ⟨oq, cq, hqe, hlq, hmq⟩ := hq.elim
  subst hpe
  subst hqe
  have hqn := nodup_le hI.nodup hI.qin
  have hll := hI.llen
  have hhl : c.heads.length = ((rs.take k).filter mayB).length := by rw [hI.heads]; simp
  have hfk := hfl k
  unfold ChS at hS
  simp only [List.cons_append, List.nil_append] at hS
  refine cw_skip ?_
  refine pq_then ?_
  refine cw_seq ?_
  refine cw_block ?_
  refine cw_seq ?_
  refine cw_region ?_
  refine ol_pure rfl (op_indexN sl_22 rfl rfl (by omega) (by assumption)) ?_
  refine ol_load rfl (op_loadN agg_30 rfl (by rfl) (fun w hw k u hk => hw.gcell (hcells k u hk))) hS ?_
  refine ol_step rfl (op_alloc hS el_30 rfl) ?_
  clear hS
  rintro _ w ⟨b7, rfl, hS⟩
  refine ol_step0  (op_storeN (j := 0) hS sz_30 rfl rfl rfl rfl rfl (by simp [Value.oneCell'])) ?_
  clear hS
  rintro _ w hS; (try simp only [List.nil_append, List.cons_append, List.set] at hS)
  refine ol_nil ?_
  refine pq_then ?_
  refine cw_seq ?_
  refine cw_seq ?_
  refine cw_region ?_
  refine ol_pure rfl (op_move rfl) ?_
  refine ol_load rfl (op_loadN agg_30 rfl (by rfl) (fun w hw k u hk => (hw.bcell (i := 0) rfl).trans hk)) hS ?_
  refine ol_step rfl (op_callv_sc (fs := []) hS hcf rfl rfl (hmay _ hS.below _ (List.getElem_mem hlt) _ _ (hp.mono EInt.mono hS.hold.le_full) (hq.mono EInt.mono hS.hold.le_full))) ?_
  clear hS
  rintro _ w ⟨rfl, hS⟩
  refine ol_pure rfl (op_not rfl) ?_
  refine ol_nil ?_
  refine pq_then ?_
  refine cw_cond rfl (fun h35 => ?_) (fun h35 => ?_)
  ·
   skip
   try simp only [decide_eq_true_eq, decide_eq_false_iff_not, Bool.not_eq_true', Bool.not_eq_false', Bool.not_eq_eq_eq_not, Bool.not_true, Bool.not_false] at h35
   refine cw_exit ?_
   refine pq_exit ?_
   refine pq_in_exit ?_
   refine pq_then ?_
   refine cw_region ?_
   refine ol_pure rfl (op_add rfl rfl (by omega) (by omega)) ?_
   refine ol_pure rfl (op_move rfl) ?_
   refine ol_nil ?_
   refine pq_loop _ _ (by exact (by
       have hmayk : mayB rs[k] = false := by simpa using h35
       replace hS := SS.drop [] hS
       exact ⟨k + 1, c, h, W, rfl, by omega, rfl, by rw [filter_take_f mayB rs k hlt hmayk]; exact hI, hS, hW⟩)) ((Sub.cons rfl (Sub.cons rfl (Sub.cons rfl (Sub.cons rfl (Sub.cons rfl Sub.nil)))))) (by omega)
  ·
   skip
   try simp only [decide_eq_true_eq, decide_eq_false_iff_not, Bool.not_eq_true', Bool.not_eq_false', Bool.not_eq_eq_eq_not, Bool.not_true, Bool.not_false] at h35
   refine cw_skip ?_
   refine pq_then ?_
   refine cw_seq ?_
   refine cw_region ?_
   refine ol_pure rfl (op_move rfl) ?_
   refine ol_pure rfl (op_nilCheck rfl) ?_
   refine ol_pure rfl (op_fieldAddr fld_92_1 rfl) ?_
   refine ol_load rfl (op_load1 one_28 rfl (fun w hw => (hw.bcell (i := 1) rfl).trans rfl)) hS ?_
   refine ol_pure rfl (op_len sl_28 rfl rfl) ?_
   refine ol_pure rfl (op_assign rfl) ?_
   refine ol_nil ?_
   refine pq_then ?_
   refine cw_seq ?_
   refine al_start' hS (hS.take 2) (by kernel_rfl) rfl (fun w hS hT => ?_)
   refine al_take (i := 0) rfl (by kernel_rfl) (by kernel_rfl) (by kernel_rfl) rfl (fun _ _ _ h => h) (op_move rfl) rfl ?_
   refine al_take (i := 1) rfl (by kernel_rfl) (by kernel_rfl) (by kernel_rfl) rfl (fun _ _ _ h => h) (op_move rfl) rfl ?_
   refine al_take (i := 2) rfl (by kernel_rfl) (by kernel_rfl) (by kernel_rfl) rfl (fun _ _ _ h => h) (op_nilCheck rfl) rfl ?_
   refine al_take (i := 3) rfl (by kernel_rfl) (by kernel_rfl) (by kernel_rfl) rfl (fun _ _ _ h => h) (op_fieldAddr fld_92_1 rfl) rfl ?_
   refine al_load (i := 4) rfl (by kernel_rfl) (by kernel_rfl) (by kernel_rfl) rfl (fun _ _ _ h => h) (by exact op_load1 one_28 rfl (fun w hw => (hw.bcell (i := 1) rfl).trans rfl)) rfl hT ?_
   refine al_take (i := 5) rfl (by kernel_rfl) (by kernel_rfl) (by kernel_rfl) rfl (fun _ _ _ h => h) (op_fieldAddr fld_30_1 rfl) rfl ?_
   refine al_load (i := 6) rfl (by kernel_rfl) (by kernel_rfl) (by kernel_rfl) rfl (fun _ _ _ h => h) (by exact op_load1 one_28 rfl (fun w hw => (hw.bcell (i := 0) rfl).trans rfl)) rfl hT ?_
   refine al_take (i := 7) rfl (by kernel_rfl) (by kernel_rfl) (by kernel_rfl) rfl (fun _ _ _ h => h) (op_len sl_28 rfl rfl) rfl ?_
   refine al_step (i := 8) rfl (by kernel_rfl) rfl (op_buildSlice (el := 3) (is := [0]) (xs := [.tmp 48]) (sz := 1) (cs := [.int .i64 (rs[k].pos.length : Nat)]) hS rfl rfl (fun w => by kernel_rfl) rfl (by decide)) ?_
   clear hS
   rintro _ w ⟨s49, rfl, hS⟩
   have hT := hT.back hS (by first | exact Le.refl _ | assumption) (fun x hx => by try simp only [List.take_succ_cons, List.take_zero, List.mem_cons, List.not_mem_nil, or_false] at hx; (rcases hx with rfl | rfl) <;> simp)
   refine ⟨fun _ _ => hT, ?_⟩
   refine al_step (i := 9) rfl (by kernel_rfl) rfl (op_append (j := 4) hS sl_28 el_3 rfl rfl rfl rfl rfl rfl (by decide) (hS.news (j := 0) rfl) (by simp [Value.oneCell']) (by omega) (by unfold maxLen; omega)) ?_
   clear hS
   rintro _ w ⟨leftn, c_leftn, rfl, hS⟩; (try simp only [List.nil_append, List.cons_append, List.set] at hS); replace hS := SS.drop [] hS; (try simp only [List.nil_append, List.cons_append] at hS)
   have hT := hT.back hS (by first | exact Le.refl _ | assumption) (fun x hx => by try simp only [List.take_succ_cons, List.take_zero, List.mem_cons, List.not_mem_nil, or_false] at hx; (rcases hx with rfl | rfl) <;> simp)
   refine ⟨fun _ _ => hT, ?_⟩
   refine al_take (i := 10) rfl (by kernel_rfl) (by kernel_rfl) (by kernel_rfl) rfl (fun _ _ _ h => h) (op_nilCheck rfl) rfl ?_
   refine al_take (i := 11) rfl (by kernel_rfl) (by kernel_rfl) (by kernel_rfl) rfl (fun _ _ _ h => h) (op_fieldAddr fld_92_1 rfl) rfl ?_
   refine al_step0 (i := 12) rfl (by kernel_rfl) (op_storeB (j := 1) (k := 1) hS sz_28 rfl rfl rfl rfl (by simp)) ?_
   clear hS
   rintro _ w hS; (try simp only [List.nil_append, List.cons_append, List.set] at hS)
   refine ⟨no_need (by kernel_rfl), ?_⟩
   refine al_done (by kernel_rfl) ?_
   refine pq_then ?_
   refine cw_seq ?_
   refine al_start' hS (hS.take 2) (by kernel_rfl) rfl (fun w hS hT => ?_)
   refine al_take (i := 0) rfl (by kernel_rfl) (by kernel_rfl) (by kernel_rfl) rfl (fun _ _ _ h => h) (op_move rfl) rfl ?_
   refine al_take (i := 1) rfl (by kernel_rfl) (by kernel_rfl) (by kernel_rfl) rfl (fun _ _ _ h => h) (op_move rfl) rfl ?_
   refine al_take (i := 2) rfl (by kernel_rfl) (by kernel_rfl) (by kernel_rfl) rfl (fun _ _ _ h => h) (op_nilCheck rfl) rfl ?_
   refine al_take (i := 3) rfl (by kernel_rfl) (by kernel_rfl) (by kernel_rfl) rfl (fun _ _ _ h => h) (op_fieldAddr fld_92_3 rfl) rfl ?_
   refine al_load (i := 4) rfl (by kernel_rfl) (by kernel_rfl) (by kernel_rfl) rfl (fun _ _ _ h => h) (by exact op_load1 one_28 rfl (fun w hw => (hw.bcell (i := 1) rfl).trans rfl)) rfl hT ?_
   refine al_take (i := 5) rfl (by kernel_rfl) (by kernel_rfl) (by kernel_rfl) rfl (fun _ _ _ h => h) (op_fieldAddr fld_30_0 rfl) rfl ?_
   refine al_load (i := 6) rfl (by kernel_rfl) (by kernel_rfl) (by kernel_rfl) rfl (fun _ _ _ h => h) (by exact op_load1 one_3 rfl (fun w hw => (hw.bcell (i := 0) rfl).trans rfl)) rfl hT ?_
   refine al_step (i := 7) rfl (by kernel_rfl) rfl (op_buildSlice (el := 3) (is := [0]) (xs := [.tmp 59]) (sz := 1) (cs := [.int .i64 rs[k].head]) hS rfl rfl (fun w => by kernel_rfl) rfl (by decide)) ?_
   clear hS
   rintro _ w ⟨s60, rfl, hS⟩
   have hT := hT.back hS (by first | exact Le.refl _ | assumption) (fun x hx => by try simp only [List.take_succ_cons, List.take_zero, List.mem_cons, List.not_mem_nil, or_false] at hx; (rcases hx with rfl | rfl) <;> simp)
   refine ⟨fun _ _ => hT, ?_⟩
   refine al_step (i := 8) rfl (by kernel_rfl) rfl (op_append (j := 6) hS sl_28 el_3 rfl rfl rfl rfl rfl rfl (by decide) (hS.news (j := 0) rfl) (by simp [Value.oneCell']) (by omega) (by unfold maxLen; omega)) ?_
   clear hS
   rintro _ w ⟨headsn, c_headsn, rfl, hS⟩; (try simp only [List.nil_append, List.cons_append, List.set] at hS); replace hS := SS.drop [] hS; (try simp only [List.nil_append, List.cons_append] at hS)
   have hT := hT.back hS (by first | exact Le.refl _ | assumption) (fun x hx => by try simp only [List.take_succ_cons, List.take_zero, List.mem_cons, List.not_mem_nil, or_false] at hx; (rcases hx with rfl | rfl) <;> simp)
   refine ⟨fun _ _ => hT, ?_⟩
   refine al_take (i := 9) rfl (by kernel_rfl) (by kernel_rfl) (by kernel_rfl) rfl (fun _ _ _ h => h) (op_nilCheck rfl) rfl ?_
   refine al_take (i := 10) rfl (by kernel_rfl) (by kernel_rfl) (by kernel_rfl) rfl (fun _ _ _ h => h) (op_fieldAddr fld_92_3 rfl) rfl ?_
   refine al_step0 (i := 11) rfl (by kernel_rfl) (op_storeB (j := 1) (k := 3) hS sz_28 rfl rfl rfl rfl (by simp)) ?_
   clear hS
   rintro _ w hS; (try simp only [List.nil_append, List.cons_append, List.set] at hS)
   refine ⟨no_need (by kernel_rfl), ?_⟩
   refine al_done (by kernel_rfl) ?_
   refine pq_then ?_
   refine cw_seq ?_
   refine cw_seq ?_
   have hS2 : SS G w0 G (.blk b7 30 [.int .i64 rs[k].head, .slice op rs[k].pos.length cp, .slice oq rs[k].neg.length cq] :: (ChS b5 (c.add1 rs[k]) { h with ol := leftn, cl := c_leftn, oh := headsn, ch := c_headsn } W ++ [.blk b2 26 [.slice oA atoms.length cA, .slice oR rs.length cR]])) w := by
     unfold ChS
     simpa [Ch.add1] using hS
   clear hS
   have hS := hS2
   clear hS2
   have hmayk : mayB rs[k] = true := by simpa using h35
   have hwl : W.length = atoms.length := by have := hI.wlen; rw [hW] at this; simpa using this
   have hwb : ∀ (j : Nat) (hj : j < W.length), W[j].2.2.length ≤ 1000000 := fun j hj => by
     have h1 := hI.who j (by omega)
     have h2 := whoOf_len (B := 1000) (j : Int) ((rs.take k).filter mayB) 0 (fun r hx => (hr r (List.mem_of_mem_take ((List.mem_filter.1 hx).1))).2)
     rw [hW] at h1
     simp only [List.getD_eq_getElem?_getD, List.getElem?_map, List.getElem?_eq_getElem hj, Option.map_some, Option.getD_some] at h1
     rw [h1]
     omega
   refine cw_region ?_
   refine ol_pure rfl (op_fieldAddr fld_30_1 rfl) ?_
   refine ol_load rfl (op_load1 one_28 rfl (fun w hw => (hw.bcell (i := 0) rfl).trans rfl)) hS ?_
   refine ol_pure rfl (op_len sl_28 rfl rfl) ?_
   refine ol_pure rfl (op_move rfl) ?_
   refine ol_nil ?_
   refine pq_then ?_
   refine cw_block ?_
   refine cw_loop (fun e w n => ∃ j h' W', e = [(1, .func (.func fid) #[] caps.toArray), (5, .pointer (some ⟨b5, 0, none⟩)), (7, .pointer (some ⟨b7, 0, none⟩)), (8, .int .i64 (c.left.length : Nat)), (26, .slice oR rs.length cR), (27, .int .i64 (rs.length : Nat)), (28, .int .i64 (k : Nat)), (65, .slice op rs[k].pos.length cp), (66, .int .i64 (rs[k].pos.length : Nat)), (67, .int .i64 (j : Nat))] ∧ j ≤ rs[k].pos.length ∧ n = rs[k].pos.length - j ∧ SS G w0 G (.blk b7 30 [.int .i64 rs[k].head, .slice op rs[k].pos.length cp, .slice oq rs[k].neg.length cq] :: (ChS b5 (waitAll (c.add1 rs[k]) c.left.length (rs[k].pos.take j)) h' W' ++ [.blk b2 26 [.slice oA atoms.length cA, .slice oR rs.length cR]])) w ∧ (waitAll (c.add1 rs[k]) c.left.length (rs[k].pos.take j)).who = W'.map (·.2.2) ∧ W'.length = atoms.length ∧ (∀ (i : Nat) (hi : i < W'.length), W'[i].2.2.length ≤ 1000000 + j)) _ _ (by exact ⟨0, _, W, rfl, Nat.zero_le _, rfl, hS, hW, hwl, fun i hi => hwb i hi⟩) ((Sub.cons rfl (Sub.cons rfl (Sub.cons rfl (Sub.cons rfl (Sub.cons rfl (Sub.cons rfl (Sub.cons rfl (Sub.cons rfl (Sub.cons rfl (Sub.cons rfl Sub.nil))))))))))) ?_
   clear hS
   rintro e w n ⟨j, h', W', rfl, hj, rfl, hS, hW', hwl', hWb⟩
   have hpl := hrk.2
   refine cw_seq ?_
   refine cw_region ?_
   refine ol_pure rfl (op_lss rfl rfl) ?_
   refine ol_nil ?_
   refine pq_then ?_
   refine cw_seq ?_
   refine cw_cond rfl (fun h68 => ?_) (fun h68 => ?_)
   ·
    skip
    try simp only [decide_eq_true_eq, decide_eq_false_iff_not, Bool.not_eq_true', Bool.not_eq_false', Bool.not_eq_eq_eq_not, Bool.not_true, Bool.not_false] at h68
    have hjl : j < rs[k].pos.length := by omega
    obtain ⟨hoj, hcj, _⟩ := hp.int hjl
    have hpj := hrk.1.2.1 _ (List.getElem_mem hjl)
    have hpW : (rs[k].pos[j]).toNat < W'.length := by omega
    unfold ChS at hS
    simp only [List.cons_append, List.nil_append] at hS
    have hwc : (W'.map whdr)[(rs[k].pos[j]).toNat * 1]? = some (whdr W'[(rs[k].pos[j]).toNat]) := by simp [hpW]
    have how := (hS.news (j := 4) rfl _ _ hwc).1
    have hwlen := hWb _ hpW
    refine cw_skip ?_
    refine pq_then ?_
    refine cw_seq ?_
    refine cw_block ?_
    refine cw_seq ?_
    refine cw_region ?_
    refine ol_pure rfl (op_indexN sl_28 rfl rfl (by omega) (by assumption)) ?_
    refine ol_load rfl (op_load1 one_3 rfl (fun w hw => by first | exact hw.gcell (by assumption) | exact hw.gcell0 (by assumption))) hS ?_
    refine ol_pure rfl (op_assign rfl) ?_
    refine ol_nil ?_
    refine pq_then ?_
    refine al_start' hS (hS.take 5) (by kernel_rfl) rfl (fun w hS hT => ?_)
    refine al_take (i := 0) rfl (by kernel_rfl) (by kernel_rfl) (by kernel_rfl) rfl (fun _ _ _ h => h) (op_move rfl) rfl ?_
    refine al_take (i := 1) rfl (by kernel_rfl) (by kernel_rfl) (by kernel_rfl) rfl (fun _ _ _ h => h) (op_nilCheck rfl) rfl ?_
    refine al_take (i := 2) rfl (by kernel_rfl) (by kernel_rfl) (by kernel_rfl) rfl (fun _ _ _ h => h) (op_fieldAddr fld_92_2 rfl) rfl ?_
    refine al_load (i := 3) rfl (by kernel_rfl) (by kernel_rfl) (by kernel_rfl) rfl (fun _ _ _ h => h) (by exact op_load1 one_90 rfl (fun w hw => (hw.bcell (i := 1) rfl).trans rfl)) rfl hT ?_
    refine al_take (i := 4) rfl (by kernel_rfl) (by kernel_rfl) (by kernel_rfl) rfl (fun _ _ _ h => h) (op_move rfl) rfl ?_
    refine al_take (i := 5) rfl (by kernel_rfl) (by kernel_rfl) (by kernel_rfl) rfl (fun _ _ _ h => h) (op_move rfl) rfl ?_
    refine al_take (i := 6) rfl (by kernel_rfl) (by kernel_rfl) (by kernel_rfl) rfl (fun _ _ _ h => h) (op_nilCheck rfl) rfl ?_
    refine al_take (i := 7) rfl (by kernel_rfl) (by kernel_rfl) (by kernel_rfl) rfl (fun _ _ _ h => h) (op_fieldAddr fld_92_2 rfl) rfl ?_
    refine al_load (i := 8) rfl (by kernel_rfl) (by kernel_rfl) (by kernel_rfl) rfl (fun _ _ _ h => h) (by exact op_load1 one_90 rfl (fun w hw => (hw.bcell (i := 1) rfl).trans rfl)) rfl hT ?_
    refine al_take (i := 9) rfl (by kernel_rfl) (by kernel_rfl) (by kernel_rfl) rfl (fun _ _ _ h => h) (op_move rfl) rfl ?_
    refine al_take (i := 10) rfl (by kernel_rfl) (by kernel_rfl) (by kernel_rfl) rfl (fun _ _ _ h => h) (op_indexAddr sl_90 rfl rfl (by omega) (by omega) how) rfl ?_
    refine al_load (i := 11) rfl (by kernel_rfl) (by kernel_rfl) (by kernel_rfl) rfl (fun _ _ _ h => h) (by exact op_load1 one_28 rfl (fun w hw => hw.rcell (i := 4) rfl hwc)) rfl hT ?_
    refine al_take (i := 12) rfl (by kernel_rfl) (by kernel_rfl) (by kernel_rfl) rfl (fun _ _ _ h => h) (op_move rfl) rfl ?_
    refine al_step (i := 13) rfl (by kernel_rfl) rfl (op_buildSlice (el := 3) (is := [0]) (xs := [.tmp 83]) (sz := 1) (cs := [.int .i64 (c.left.length : Nat)]) hS rfl rfl (fun w => by kernel_rfl) rfl (by decide)) ?_
    clear hS
    rintro _ w ⟨s84, rfl, hS⟩
    have hT := hT.back hS (by first | exact Le.refl _ | assumption) (fun x hx => by try simp only [List.take_succ_cons, List.take_zero, List.mem_cons, List.not_mem_nil, or_false] at hx; (rcases hx with rfl | rfl | rfl | rfl | rfl) <;> simp)
    refine ⟨fun _ _ => hT, ?_⟩
    refine al_step (i := 14) rfl (by kernel_rfl) rfl (op_append (j := 8 + (rs[k].pos[j]).toNat) hS sl_28 el_3 rfl rfl (wget hpW [_, _, _, _, _, _, _, _] _) rfl rfl rfl (by decide) (hS.news (j := 0) rfl) (by simp [Value.oneCell']) (by omega) (by unfold maxLen; omega)) ?_
    clear hS
    rintro _ w ⟨oa', c_a, rfl, hS⟩
    have hS2 := hS
    rw [show Ent.row oa' (W'[(rs[k].pos[j]).toNat].2.2.length + 1) c_a 3 1 (List.map (Value.int .i64) W'[(rs[k].pos[j]).toNat].2.2 ++ [Value.int .i64 (c.left.length : Nat)]) = wrow (oa', c_a, W'[(rs[k].pos[j]).toNat].2.2 ++ [((c.left.length : Nat) : Int)]) from by simp [wrow]] at hS2
    replace hS2 := (wset hpW [_, _, _, _, _, _, _, _] _ _) ▸ hS2
    clear hS
    have hS := SS.drop [] hS2
    clear hS2
    (try simp only [List.nil_append, List.cons_append] at hS)
    have hT := hT.back hS (by first | exact Le.refl _ | assumption) (fun x hx => by try simp only [List.take_succ_cons, List.take_zero, List.mem_cons, List.not_mem_nil, or_false] at hx; (rcases hx with rfl | rfl | rfl | rfl | rfl) <;> simp)
    refine ⟨fun _ _ => hT, ?_⟩
    refine al_take (i := 15) rfl (by kernel_rfl) (by kernel_rfl) (by kernel_rfl) rfl (fun _ _ _ h => h) (op_indexAddr sl_90 rfl rfl (by omega) (by omega) how) rfl ?_
    refine al_step0 (i := 16) rfl (by kernel_rfl) (op_storeR (j := 4) (k := (rs[k].pos[j]).toNat * 1) hS sz_28 rfl rfl rfl rfl (by simpa using hpW)) ?_
    clear hS
    rintro _ w hS; (try simp only [List.nil_append, List.cons_append, List.set] at hS)
    refine ⟨no_need (by kernel_rfl), ?_⟩
    refine al_done (by kernel_rfl) ?_
    refine pq_in_normal ?_
    refine pq_then ?_
    refine cw_region ?_
    refine ol_pure rfl (op_add rfl rfl (by omega) (by omega)) ?_
    refine ol_pure rfl (op_move rfl) ?_
    refine ol_nil ?_
    refine pq_loop _ _ (by exact (by
        refine ⟨j + 1, h', W'.set (rs[k].pos[j]).toNat (oa', c_a, W'[(rs[k].pos[j]).toNat].2.2 ++ [((c.left.length : Nat) : Int)]), rfl, by omega, rfl, ?_, ?_, by simpa using hwl', fun i hi => ?_⟩
        · rw [waitAll_take _ _ _ _ hjl]
          unfold ChS
          simp only [Nat.mul_one] at hS
          rw [show Value.slice oa' (W'[(rs[k].pos[j]).toNat].2.2.length + 1) c_a = whdr (oa', c_a, W'[(rs[k].pos[j]).toNat].2.2 ++ [((c.left.length : Nat) : Int)]) from by simp [whdr], whdr_set] at hS
          simpa [Ch.wait] using hS
        · rw [waitAll_take _ _ _ _ hjl]
          simp only [Ch.wait, hW']
          rw [List.map_set]
          simp [hpW]
        · by_cases hip : i = (rs[k].pos[j]).toNat
          · subst hip
            simp
            omega
          · have hi' : i < W'.length := by simpa using hi
            have := hWb i hi'
            rw [List.getElem_set_ne (Ne.symm hip)]
            omega)) ((Sub.cons rfl (Sub.cons rfl (Sub.cons rfl (Sub.cons rfl (Sub.cons rfl (Sub.cons rfl (Sub.cons rfl (Sub.cons rfl (Sub.cons rfl (Sub.cons rfl Sub.nil))))))))))) (by omega)
   ·
    skip
    try simp only [decide_eq_true_eq, decide_eq_false_iff_not, Bool.not_eq_true', Bool.not_eq_false', Bool.not_eq_eq_eq_not, Bool.not_true, Bool.not_false] at h68
    refine cw_exit ?_
    refine pq_exit ?_
    refine pq_exit ?_
    refine pq_in_exit ?_
    refine pq_then ?_
    refine cw_seq ?_
    rw [List.take_of_length_le (show rs[k].pos.length ≤ j by omega)] at hS hW'
    refine cw_region ?_
    refine ol_pure rfl (op_fieldAddr fld_30_1 rfl) ?_
    refine ol_load rfl (op_load1 one_28 rfl (fun w hw => (hw.bcell (i := 0) rfl).trans rfl)) hS ?_
    refine ol_pure rfl (op_len sl_28 rfl rfl) ?_
    refine ol_pure rfl (op_eql rfl rfl) ?_
    refine ol_nil ?_
    refine pq_then ?_
    refine cw_cond rfl (fun h91 => ?_) (fun h91 => ?_)
    ·
     skip
     try simp only [decide_eq_true_eq, decide_eq_false_iff_not, Bool.not_eq_true', Bool.not_eq_false', Bool.not_eq_eq_eq_not, Bool.not_true, Bool.not_false] at h91
     refine cw_region ?_
     refine ol_pure rfl (op_move rfl) ?_
     refine ol_pure rfl (op_fieldAddr fld_30_0 rfl) ?_
     refine ol_load rfl (op_load1 one_3 rfl (fun w hw => (hw.bcell (i := 0) rfl).trans rfl)) hS ?_
     have hS2 := SS.back1 (ChS b5 (waitAll (c.add1 rs[k]) c.left.length rs[k].pos) h' W') hS
     refine ol_step rfl (op_callu cf_73 rfl (by rw [← Int.toNat_of_nonneg hrk.1.1.1]; exact wfm_chain_follow_c hS2 _ (by rw [(waitAll_same _ _ _).1]; have := hI.olen; have := hrk.1.1; show _ < c.out.length; omega) (by rw [(waitAll_same _ _ _).2.2.2.1]; show c.queue.length ≤ _; omega))) ?_
     clear hS
     rintro _ w ⟨rfl, h'', hS⟩
     refine ol_nil ?_
     refine pq_in_normal ?_
     refine pq_then ?_
     refine cw_region ?_
     refine ol_pure rfl (op_add rfl rfl (by omega) (by omega)) ?_
     refine ol_pure rfl (op_move rfl) ?_
     refine ol_nil ?_
     refine pq_loop _ _ (by exact (by
         have h0 : rs[k].pos.length = 0 := by omega
         have hS3 := SS.front1 _ hS
         replace hS := SS.drop [] hS3
         have hadd : c.add rs[k] = (waitAll (c.add1 rs[k]) c.left.length rs[k].pos).follow rs[k].head.toNat := by
           unfold Ch.add
           simp only []
           rw [if_pos h0]
           rfl
         rw [← hadd] at hS
         refine ⟨k + 1, _, h'', W', rfl, by omega, rfl, by rw [filter_take_t mayB rs k hlt hmayk]; exact hI.add hrk.1, hS, ?_⟩
         rw [hadd, (follow_same _ _).2.2.1]
         exact hW')) ((Sub.cons rfl (Sub.cons rfl (Sub.cons rfl (Sub.cons rfl (Sub.cons rfl Sub.nil)))))) (by omega)
    ·
     skip
     try simp only [decide_eq_true_eq, decide_eq_false_iff_not, Bool.not_eq_true', Bool.not_eq_false', Bool.not_eq_eq_eq_not, Bool.not_true, Bool.not_false] at h91
     refine cw_skip ?_
     refine pq_in_normal ?_
     refine pq_then ?_
     refine cw_region ?_
     refine ol_pure rfl (op_add rfl rfl (by omega) (by omega)) ?_
     refine ol_pure rfl (op_move rfl) ?_
     refine ol_nil ?_
     refine pq_loop _ _ (by exact (by
         have h0 : ¬ rs[k].pos.length = 0 := by omega
         replace hS := SS.drop [] hS
         have hadd : c.add rs[k] = waitAll (c.add1 rs[k]) c.left.length rs[k].pos := by
           unfold Ch.add
           simp only []
           rw [if_neg h0]
           rfl
         refine ⟨k + 1, c.add rs[k], h', W', rfl, by omega, rfl, by rw [filter_take_t mayB rs k hlt hmayk]; exact hI.add hrk.1, by rw [hadd]; exact hS, by rw [hadd]; exact hW'⟩)) ((Sub.cons rfl (Sub.cons rfl (Sub.cons rfl (Sub.cons rfl (Sub.cons rfl Sub.nil)))))) (by omega)
 ·
  skip
  try simp only [decide_eq_true_eq, decide_eq_false_iff_not, Bool.not_eq_true', Bool.not_eq_false', Bool.not_eq_eq_eq_not, Bool.not_true, Bool.not_false] at h29
  refine cw_exit ?_
  refine pq_exit ?_
  refine pq_exit ?_
  refine pq_in_exit ?_
  refine pq_then ?_
  refine cw_seq ?_
  refine cw_region ?_
  refine ol_pure rfl (op_move rfl) ?_
  refine ol_pure rfl (op_makeFunc rfl rfl) ?_
  refine ol_pure rfl (op_assign rfl) ?_
  refine ol_nil ?_
  refine pq_then ?_
  refine cw_seq ?_
  refine cw_block ?_
  refine cw_loop (fun e w n => ∃ D c h W, e = [(5, .pointer (some ⟨b5, 0, none⟩)), (11, .func (.func 74) #[.pointer (some ⟨b5, 0, none⟩)] #[])] ∧ Inv atoms.length (rs.filter mayB) D c ∧ SS G w0 G (ChS b5 c h W ++ [.blk b2 26 [.slice oA atoms.length cA, .slice oR rs.length cR]]) w ∧ c.who = W.map (·.2.2) ∧ n = openD atoms.length D) _ _ (by exact ⟨noD, c, h, W, rfl, by rw [List.take_of_length_le (by omega)] at hI; exact hI, hS, hW, rfl⟩) ((Sub.cons rfl (Sub.cons rfl Sub.nil))) ?_
  clear hS
  rintro e w n ⟨D, c, h, W, rfl, hI, hS, hW, rfl⟩
  have hqn := nodup_le hI.nodup hI.qin
  refine cw_seq ?_
  refine cw_seq ?_
  refine cw_region ?_
  refine ol_pure rfl (op_move rfl) ?_
  refine ol_pure rfl (op_nilCheck rfl) ?_
  refine ol_pure rfl (op_fieldAddr fld_92_4 rfl) ?_
  refine ol_load rfl (op_load1 one_28 rfl (fun w hw => (hw.bcell (i := 0) rfl).trans rfl)) hS ?_
  refine ol_pure rfl (op_len sl_28 rfl rfl) ?_
  refine ol_pure rfl (op_gtr rfl rfl) ?_
  refine ol_nil ?_
  refine pq_then ?_
  refine cw_cond rfl (fun h104 => ?_) (fun h104 => ?_)
  ·
   skip
   try simp only [decide_eq_true_eq, decide_eq_false_iff_not, Bool.not_eq_true', Bool.not_eq_false', Bool.not_eq_eq_eq_not, Bool.not_true, Bool.not_false] at h104
   have hql : 0 < c.queue.length := by omega
   obtain ⟨a0, qt, hqe⟩ : ∃ a0 qt, c.queue = a0 :: qt := by
     cases hqq : c.queue with
     | nil => rw [hqq] at hql; simp at hql
     | cons x y => exact ⟨x, y, rfl⟩
   have ha0 := hI.qin a0 (by rw [hqe]; simp)
   obtain ⟨a, rfl⟩ := Int.eq_ofNat_of_zero_le ha0.1
   have haD := hI.disj _ (by rw [hqe]; simp : ((a : Nat) : Int) ∈ c.queue)
   have hwl : W.length = atoms.length := by have := hI.wlen; rw [hW] at this; simpa using this
   have haW : a < W.length := by omega
   have hwho : W[a].2.2 = whoOf (a : Int) 0 (rs.filter mayB) := by
     have h1 := hI.who a (by omega)
     rw [hW] at h1
     simpa [haW] using h1
   have hwlen : W[a].2.2.length ≤ 1000000 := by
     rw [hwho]
     have h2 := whoOf_len (B := 1000) (a : Int) (rs.filter mayB) 0 (fun r hx => (hr r ((List.mem_filter.1 hx).1)).2)
     have h3 := List.length_filter_le mayB rs
     omega
   unfold ChS at hS
   simp only [List.cons_append, List.nil_append] at hS
   have hqc : (c.queue.map (Value.int .i64))[(0 : Int).toNat * 1]? = some (.int .i64 (a : Nat)) := by rw [hqe]; rfl
   have hoq := (hS.news (j := 5) rfl _ _ hqc).1
   refine cw_skip ?_
   refine pq_then ?_
   refine cw_block ?_
   refine cw_seq ?_
   refine cw_region ?_
   refine ol_pure rfl (op_move rfl) ?_
   refine ol_pure rfl (op_nilCheck rfl) ?_
   refine ol_pure rfl (op_fieldAddr fld_92_4 rfl) ?_
   refine ol_load rfl (op_load1 one_28 rfl (fun w hw => (hw.bcell (i := 0) rfl).trans rfl)) hS ?_
   refine ol_pure rfl (op_indexAddr sl_28 rfl rfl (by omega) (by omega) hoq) ?_
   refine ol_load rfl (op_load1 one_3 rfl (fun w hw => hw.rcell (i := 5) rfl hqc)) hS ?_
   refine ol_pure rfl (op_assign rfl) ?_
   refine ol_nil ?_
   refine pq_then ?_
   refine cw_seq ?_
   refine cw_region ?_
   refine ol_pure rfl (op_move rfl) ?_
   refine ol_pure rfl (op_move rfl) ?_
   refine ol_pure rfl (op_nilCheck rfl) ?_
   refine ol_pure rfl (op_fieldAddr fld_92_4 rfl) ?_
   refine ol_load rfl (op_load1 one_28 rfl (fun w hw => (hw.bcell (i := 0) rfl).trans rfl)) hS ?_
   refine ol_pure rfl (op_slice_l (l := 1) sl_28 rfl rfl (by omega)) ?_
   refine ol_pure rfl (op_nilCheck rfl) ?_
   refine ol_pure rfl (op_fieldAddr fld_92_4 rfl) ?_
   refine ol_step0  (op_storeB (j := 0) (k := 4) hS sz_28 rfl rfl rfl rfl (by simp)) ?_
   clear hS
   rintro _ w hS; (try simp only [List.nil_append, List.cons_append, List.set] at hS)
   have hqn : c.queue.length = qt.length + 1 := by rw [hqe]; rfl
   rw [hqn, hqe] at hS
   replace hS := SS.cutRow [_, _, _, _, _] hS
   have hS2 : SS G w0 G (ChS b5 c.pop { h with oq := (if h.cq = 1 then h.oq else h.oq.map (·.add (1 * 1))), cq := h.cq - 1 } W ++ [.blk b2 26 [.slice oA atoms.length cA, .slice oR rs.length cR]]) w := by
     unfold ChS
     simpa [Ch.pop, hqe] using hS
   clear hS
   have hS := hS2
   clear hS2
   unfold ChS at hS
   simp only [List.cons_append, List.nil_append] at hS
   have hwc : (W.map whdr)[a * 1]? = some (whdr W[a]) := by simp [haW]
   have how := (hS.news (j := 3) rfl _ _ hwc).1
   have hIG := hI.pop hqe
   refine ol_nil ?_
   refine pq_then ?_
   refine cw_seq ?_
   refine cw_region ?_
   refine ol_pure rfl (op_move rfl) ?_
   refine ol_pure rfl (op_nilCheck rfl) ?_
   refine ol_pure rfl (op_fieldAddr fld_92_2 rfl) ?_
   refine ol_load rfl (op_load1 one_90 rfl (fun w hw => (hw.bcell (i := 0) rfl).trans rfl)) hS ?_
   refine ol_pure rfl (op_move rfl) ?_
   refine ol_pure rfl (op_indexN sl_90 rfl rfl (by omega) how) ?_
   refine ol_load rfl (op_load1 one_28 rfl (fun w hw => hw.rcell (i := 3) rfl hwc)) hS ?_
   refine ol_pure rfl (op_len sl_28 rfl rfl) ?_
   refine ol_pure rfl (op_move rfl) ?_
   refine ol_nil ?_
   refine pq_then ?_
   refine cw_block ?_
   have hS2 : SS G w0 G (ChS b5 c.pop { h with oq := (if h.cq = 1 then h.oq else h.oq.map (·.add (1 * 1))), cq := h.cq - 1 } W ++ [.blk b2 26 [.slice oA atoms.length cA, .slice oR rs.length cR]]) w := hS
   refine cw_loop (fun e w n => ∃ j c' h', e = [(5, .pointer (some ⟨b5, 0, none⟩)), (11, .func (.func 74) #[.pointer (some ⟨b5, 0, none⟩)] #[]), (125, .slice W[a].1 W[a].2.2.length W[a].2.1), (126, .int .i64 (W[a].2.2.length : Nat)), (127, .int .i64 (j : Nat))] ∧ j ≤ W[a].2.2.length ∧ n = W[a].2.2.length - j ∧ IG atoms.length (rs.filter mayB) (addD D a) (Lm (rs.filter mayB) D (W[a].2.2.take j)) (fun _ => False) c' ∧ SS G w0 G (ChS b5 c' h' W ++ [.blk b2 26 [.slice oA atoms.length cA, .slice oR rs.length cR]]) w ∧ c'.who = W.map (·.2.2)) _ _ (by exact ⟨0, _, _, rfl, Nat.zero_le _, rfl, hIG, hS2, hW⟩) ((Sub.cons rfl (Sub.cons rfl (Sub.cons rfl (Sub.cons rfl (Sub.cons rfl Sub.nil)))))) ?_
   clear hS2
   clear hS
   rintro e w n ⟨j, c', h', rfl, hj, rfl, hMI, hS, hW'⟩
   refine cw_seq ?_
   refine cw_region ?_
   refine ol_pure rfl (op_lss rfl rfl) ?_
   refine ol_nil ?_
   refine pq_then ?_
   refine cw_seq ?_
   refine cw_cond rfl (fun h128 => ?_) (fun h128 => ?_)
   ·
    skip
    try simp only [decide_eq_true_eq, decide_eq_false_iff_not, Bool.not_eq_true', Bool.not_eq_false', Bool.not_eq_eq_eq_not, Bool.not_true, Bool.not_false] at h128
    have hjl : j < W[a].2.2.length := by omega
    have hsplit : whoOf (a : Int) 0 (rs.filter mayB) = W[a].2.2.take j ++ W[a].2.2[j] :: W[a].2.2.drop (j + 1) := by
      rw [← hwho, List.getElem_cons_drop, List.take_append_drop]
    obtain ⟨hm1, hm2⟩ := IG.met (a := a) hrs (by omega) haD hMI hsplit
    have hwr : (ChS b5 c' h' W ++ [.blk b2 26 [.slice oA atoms.length cA, .slice oR rs.length cR]])[6 + a]? = some (wrow W[a]) := by
      unfold ChS
      rw [List.append_assoc]
      exact wget haW [_, _, _, _, _, _] _
    have hjc : (W[a].2.2.map (Value.int .i64))[j * 1]? = some (.int .i64 W[a].2.2[j]) := by simp [hjl]
    have hoj := (hS.news (j := 6 + a) hwr _ _ hjc).1
    obtain ⟨i, hi⟩ := Int.eq_ofNat_of_zero_le hm1.1
    rw [hi] at hjc hm1 hm2
    simp only [Int.toNat_natCast] at hm1 hm2
    refine cw_skip ?_
    refine pq_then ?_
    refine cw_seq ?_
    refine cw_block ?_
    refine cw_seq ?_
    refine cw_region ?_
    refine ol_pure rfl (op_indexN sl_28 rfl rfl (by omega) (by assumption)) ?_
    refine ol_load rfl (op_load1 one_3 rfl (fun w hw => hw.rcell (i := 6 + a) hwr hjc)) hS ?_
    refine ol_pure rfl (op_assign rfl) ?_
    refine ol_nil ?_
    refine pq_then ?_
    refine cw_region ?_
    refine ol_pure rfl (op_move rfl) ?_
    refine ol_pure rfl (op_move rfl) ?_
    refine ol_step rfl (op_callvu (cs := []) cf_74 rfl rfl (wfm_chain_met_c hS i (by rw [hMI.llen]; exact hm1.2.1) (by rw [hMI.heads]; simpa using hm1.2.1) (by
          have := hrs _ (List.getElem_mem hm1.2.1)
          simp only [hMI.heads, List.getElem_map]
          exact this.1.1) (by
          have := hrs _ (List.getElem_mem hm1.2.1)
          simp only [hMI.heads, List.getElem_map]
          rw [hMI.olen]
          have := this.1
          omega) (by
          have h1 := hm1.2.2
          have h2 := hMI.left i hm1.2.1
          have h3 : i < c'.left.length := by rw [hMI.llen]; exact hm1.2.1
          have h4 : c'.left.getD i 0 = c'.left[i] := by simp [h3]
          have h5 : Lm (rs.filter mayB) D (W[a].2.2.take j) i ≤ 1000 := by
            have h6 := (hr _ ((List.mem_filter.1 (List.getElem_mem hm1.2.1)).1)).2
            have h7 : ((rs.filter mayB)[i].pos.countP fun p => !D p) ≤ (rs.filter mayB)[i].pos.length := List.countP_le_length
            unfold Lm Lc
            rw [List.getElem?_eq_getElem hm1.2.1]
            simp only
            omega
          omega) (by have := nodup_le hMI.nodup hMI.qin; omega))) ?_
    clear hS
    rintro _ w ⟨rfl, h'', hS⟩
    refine ol_nil ?_
    refine pq_in_normal ?_
    refine pq_then ?_
    refine cw_region ?_
    refine ol_pure rfl (op_add rfl rfl (by omega) (by omega)) ?_
    refine ol_pure rfl (op_move rfl) ?_
    refine ol_nil ?_
    refine pq_loop _ _ (by exact ⟨j + 1, c'.met i, h'', rfl, by omega, rfl, by
          rw [List.take_succ_eq_append_getElem hjl, hi]
          exact hm2, hS, by
          rw [← hW']
          unfold Ch.met
          simp only []
          split
          · exact (follow_same _ _).2.2.1
          · rfl⟩) ((Sub.cons rfl (Sub.cons rfl (Sub.cons rfl (Sub.cons rfl (Sub.cons rfl Sub.nil)))))) (by omega)
   ·
    skip
    try simp only [decide_eq_true_eq, decide_eq_false_iff_not, Bool.not_eq_true', Bool.not_eq_false', Bool.not_eq_eq_eq_not, Bool.not_true, Bool.not_false] at h128
    refine cw_exit ?_
    refine pq_exit ?_
    refine pq_exit ?_
    refine pq_in_exit ?_
    refine pq_in_normal ?_
    refine pq_loop _ _ (by exact (by
        rw [List.take_of_length_le (show W[a].2.2.length ≤ j by omega), hwho] at hMI
        exact ⟨addD D a, c', h', W, rfl, IG.close haD hMI, hS, hW', rfl⟩)) ((Sub.cons rfl (Sub.cons rfl Sub.nil))) (openD_lt (by omega) haD)
  ·
   skip
   try simp only [decide_eq_true_eq, decide_eq_false_iff_not, Bool.not_eq_true', Bool.not_eq_false', Bool.not_eq_eq_eq_not, Bool.not_true, Bool.not_false] at h104
   refine cw_exit ?_
   refine pq_exit ?_
   refine pq_exit ?_
   refine pq_in_exit ?_
   refine pq_then ?_
   refine cw_seq ?_
   refine cw_region ?_
   refine ol_pure rfl (op_move rfl) ?_
   refine ol_pure rfl (op_nilCheck rfl) ?_
   refine ol_pure rfl (op_fieldAddr fld_92_0 rfl) ?_
   refine ol_load rfl (op_load1 one_49 rfl (fun w hw => (hw.bcell (i := 0) rfl).trans rfl)) hS ?_
   refine ol_pure rfl (op_assign rfl) ?_
   refine ol_nil ?_
   refine pq_then ?_
   refine cw_ret ?_
   refine ret1 rfl rfl ?_
   have hqe : c.queue = [] := List.eq_nil_of_length_eq_zero (by omega)
   have hout := hI.done hrs hqe
   unfold ChS at hS
   simp only [List.cons_append, List.nil_append] at hS
   rw [← hout]
   exact SS.rt_row [_] hS (by decide) (Rows.of_map (fun _ _ => rfl)) EBool.mono rfl
end Go.Proofs.Ytmkgechdfimfnaa.K
