/-
  The chain of layer wfm: follow and met.
  No condition but the premises that each theorem names.
-/
import Derived.Test.YtmkgechdfimfnaaBase
namespace Go.Proofs.Ytmkgechdfimfnaa.K
open Go Go.RowKit
set_option linter.unusedVariables false
set_option linter.unusedSimpArgs false

open Pl
structure Hd where
  oo : Option Addr
  ol : Option Addr
  ow : Option Addr
  oh : Option Addr
  oq : Option Addr
  co : Nat
  cl : Nat
  cw : Nat
  ch : Nat
  cq : Nat
abbrev WRow := Option Addr × Nat × List Int
def whdr (x : WRow) : Value := .slice x.1 x.2.2.length x.2.1
def wrow (x : WRow) : Ent := .row x.1 x.2.2.length x.2.1 3 1 (x.2.2.map (Value.int .i64))
/-- The blocks of a chain: its own, its rows, and the rows of who. -/
def ChS (b : Nat) (c : Ch) (h : Hd) (W : List WRow) : List Ent :=
  [.blk b 92 [.slice h.oo c.out.length h.co, .slice h.ol c.left.length h.cl, .slice h.ow W.length h.cw, .slice h.oh c.heads.length h.ch, .slice h.oq c.queue.length h.cq],
   .row h.oo c.out.length h.co 4 1 (c.out.map Value.bool), .row h.ol c.left.length h.cl 3 1 (c.left.map (Value.int .i64)), .row h.ow W.length h.cw 28 1 (W.map whdr),
   .row h.oh c.heads.length h.ch 3 1 (c.heads.map (Value.int .i64)), .row h.oq c.queue.length h.cq 3 1 (c.queue.map (Value.int .i64))] ++ W.map wrow

set_option maxRecDepth 100000 in

theorem wfm_chain_follow_c {G0 G : GH} {w0 w : World} {M : List Ent} {b : Nat} {c : Ch} {h : Hd} {W : List WRow} (hS : SS G0 w0 G (ChS b c h W ++ M) w) (a : Nat) (ha : a < c.out.length) (hq : c.queue.length ≤ 100000000) :
   Calls Try.prog 73 #[.pointer (some ⟨b, 0, none⟩), .int .i64 (a : Nat)] w (fun en w' => en = .returned (.tuple #[]) ∧ ∃ h', SS G0 w0 G (ChS b (c.follow a) h' W ++ M) w') := by
 refine enter Try.func73 rfl (N := 28) rfl (Nat.le_of_ble_eq_true rfl) ?_
 unfold ChS at hS
 simp only [List.cons_append, List.nil_append] at hS
 refine cw_seq ?_
 refine cw_region ?_
 refine ol_pure rfl (op_move rfl) ?_
 refine ol_pure rfl (op_nilCheck rfl) ?_
 refine ol_pure rfl (op_fieldAddr fld_92_0 rfl) ?_
 refine ol_load rfl (op_load1 one_49 rfl (fun w hw => (hw.bcell (i := 0) rfl).trans rfl)) hS ?_
 refine ol_pure rfl (op_move rfl) ?_
 have hcell : (c.out.map Value.bool)[a * 1]? = some (.bool c.out[a]) := by simp [ha]
 have hoa := (hS.news (j := 1) rfl _ _ hcell).1
 refine ol_pure rfl (op_indexN sl_49 rfl rfl (by omega) (by assumption)) ?_
 refine ol_load rfl (op_load1 one_4 rfl (fun w hw => hw.rcell (i := 1) rfl hcell)) hS ?_
 refine ol_pure rfl (op_not rfl) ?_
 refine ol_nil ?_
 refine pq_then ?_
 refine cw_cond rfl (fun h11 => ?_) (fun h11 => ?_)
 ·
  skip
  try simp only [decide_eq_true_eq, decide_eq_false_iff_not, Bool.not_eq_true', Bool.not_eq_false', Bool.not_eq_eq_eq_not, Bool.not_true, Bool.not_false] at h11
  refine cw_seq ?_
  refine cw_region ?_
  refine ol_pure rfl (op_move rfl) ?_
  refine ol_pure rfl (op_nilCheck rfl) ?_
  refine ol_pure rfl (op_fieldAddr fld_92_0 rfl) ?_
  refine ol_load rfl (op_load1 one_49 rfl (fun w hw => (hw.bcell (i := 0) rfl).trans rfl)) hS ?_
  refine ol_pure rfl (op_move rfl) ?_
  refine ol_pure rfl (op_indexN sl_49 rfl rfl (by omega) (by assumption)) ?_
  refine ol_step0  (op_storeR (j := 1) (k := a * 1) hS sz_4 rfl rfl rfl rfl (by simpa using ha)) ?_
  clear hS
  rintro _ w hS; (try simp only [List.nil_append, List.cons_append, List.set] at hS)
  refine ol_nil ?_
  refine pq_then ?_
  refine cw_region ?_
  refine ol_pure rfl (op_move rfl) ?_
  refine ol_pure rfl (op_move rfl) ?_
  refine ol_pure rfl (op_nilCheck rfl) ?_
  refine ol_pure rfl (op_fieldAddr fld_92_4 rfl) ?_
  refine ol_load rfl (op_load1 one_28 rfl (fun w hw => (hw.bcell (i := 0) rfl).trans rfl)) hS ?_
  refine ol_pure rfl (op_move rfl) ?_
  refine ol_step rfl (op_buildSlice (el := 3) (is := [0]) (xs := [.tmp 23]) (sz := 1) (cs := [.int .i64 (a : Nat)]) hS rfl rfl (fun w => by kernel_rfl) rfl (by decide)) ?_
  clear hS
  rintro _ w ⟨s24, rfl, hS⟩
  refine ol_step rfl (op_append (j := 6) hS sl_28 el_3 rfl rfl rfl rfl rfl rfl (by decide) (hS.news (j := 0) rfl) (by simp [Value.oneCell']) (by omega) (by unfold maxLen; omega)) ?_
  clear hS
  rintro _ w ⟨queuen, c_queuen, rfl, hS⟩; (try simp only [List.nil_append, List.cons_append, List.set] at hS); replace hS := SS.drop [] hS; (try simp only [List.nil_append, List.cons_append] at hS)
  refine ol_pure rfl (op_nilCheck rfl) ?_
  refine ol_pure rfl (op_fieldAddr fld_92_4 rfl) ?_
  refine ol_step0  (op_storeB (j := 0) (k := 4) hS sz_28 rfl rfl rfl rfl (by simp)) ?_
  clear hS
  rintro _ w hS; (try simp only [List.nil_append, List.cons_append, List.set] at hS)
  refine ol_nil ?_
  refine end0 rfl ?_
  refine ⟨rfl, { h with oq := queuen, cq := c_queuen }, ?_⟩
  have hf : c.follow a = { c with out := c.out.set a true, queue := c.queue ++ [(a : Int)] } := by
    unfold Ch.follow; rw [if_neg (by simp [ha, h11])]
  rw [hf]
  unfold ChS
  simpa [List.map_set] using hS
 ·
  skip
  try simp only [decide_eq_true_eq, decide_eq_false_iff_not, Bool.not_eq_true', Bool.not_eq_false', Bool.not_eq_eq_eq_not, Bool.not_true, Bool.not_false] at h11
  refine cw_skip ?_
  refine end0 rfl ?_
  refine ⟨rfl, h, ?_⟩
  have hf : c.follow a = c := by
    unfold Ch.follow; rw [if_pos (by simpa [ha] using h11)]
  rw [hf]
  exact hS
set_option maxRecDepth 100000 in

theorem wfm_chain_met_c {G0 G : GH} {w0 w : World} {M : List Ent} {b : Nat} {c : Ch} {h : Hd} {W : List WRow} (hS : SS G0 w0 G (ChS b c h W ++ M) w) (r : Nat) (hr : r < c.left.length) (hh : r < c.heads.length) (h0 : 0 ≤ c.heads[r]) (h1 : c.heads[r].toNat < c.out.length) (hb : -100000000 ≤ c.left[r] ∧ c.left[r] ≤ 100000000) (hq : c.queue.length ≤ 100000000) :
   Calls Try.prog 74 #[.pointer (some ⟨b, 0, none⟩), .int .i64 (r : Nat)] w (fun en w' => en = .returned (.tuple #[]) ∧ ∃ h', SS G0 w0 G (ChS b (c.met r) h' W ++ M) w') := by
 refine enter Try.func74 rfl (N := 30) rfl (Nat.le_of_ble_eq_true rfl) ?_
 unfold ChS at hS
 simp only [List.cons_append, List.nil_append] at hS
 refine cw_seq ?_
 refine cw_region ?_
 refine ol_pure rfl (op_move rfl) ?_
 refine ol_pure rfl (op_nilCheck rfl) ?_
 refine ol_pure rfl (op_fieldAddr fld_92_1 rfl) ?_
 refine ol_load rfl (op_load1 one_28 rfl (fun w hw => (hw.bcell (i := 0) rfl).trans rfl)) hS ?_
 refine ol_pure rfl (op_move rfl) ?_
 have hcell : (c.left.map (Value.int .i64))[r * 1]? = some (.int .i64 c.left[r]) := by simp [hr]
 have hoa := (hS.news (j := 2) rfl _ _ hcell).1
 refine ol_pure rfl (op_indexN sl_28 rfl rfl (by omega) (by assumption)) ?_
 refine ol_load rfl (op_load1 one_3 rfl (fun w hw => hw.rcell (i := 2) rfl hcell)) hS ?_
 refine ol_pure rfl (op_sub rfl rfl (by omega) (by omega)) ?_
 refine ol_pure rfl (op_indexN sl_28 rfl rfl (by omega) (by assumption)) ?_
 refine ol_step0  (op_storeR (j := 2) (k := r * 1) hS sz_3 rfl rfl rfl rfl (by simpa using hr)) ?_
 clear hS
 rintro _ w hS; (try simp only [List.nil_append, List.cons_append, List.set] at hS)
 refine ol_nil ?_
 refine pq_then ?_
 refine cw_seq ?_
 refine cw_region ?_
 refine ol_pure rfl (op_move rfl) ?_
 refine ol_pure rfl (op_nilCheck rfl) ?_
 refine ol_pure rfl (op_fieldAddr fld_92_1 rfl) ?_
 refine ol_load rfl (op_load1 one_28 rfl (fun w hw => (hw.bcell (i := 0) rfl).trans rfl)) hS ?_
 refine ol_pure rfl (op_move rfl) ?_
 refine ol_pure rfl (op_indexN sl_28 rfl rfl (by omega) (by assumption)) ?_
 have hcell2 : ((c.left.map (Value.int .i64)).set (r * 1) (.int .i64 (c.left[r] - 1)))[r * 1]? = some (.int .i64 (c.left[r] - 1)) := by simp [hr]
 refine ol_load rfl (op_load1 one_3 rfl (fun w hw => hw.rcell (i := 2) rfl hcell2)) hS ?_
 refine ol_pure rfl (op_eql rfl rfl) ?_
 refine ol_nil ?_
 refine pq_then ?_
 refine cw_cond rfl (fun h20 => ?_) (fun h20 => ?_)
 ·
  skip
  try simp only [decide_eq_true_eq, decide_eq_false_iff_not, Bool.not_eq_true', Bool.not_eq_false', Bool.not_eq_eq_eq_not, Bool.not_true, Bool.not_false] at h20
  have hS2 : SS G0 w0 G (ChS b { c with left := c.left.set r (c.left[r] - 1) } h W ++ M) w := by
    unfold ChS
    simpa [List.map_set] using hS
  refine cw_region ?_
  refine ol_pure rfl (op_move rfl) ?_
  refine ol_pure rfl (op_move rfl) ?_
  refine ol_pure rfl (op_nilCheck rfl) ?_
  refine ol_pure rfl (op_fieldAddr fld_92_3 rfl) ?_
  refine ol_load rfl (op_load1 one_28 rfl (fun w hw => (hw.bcell (i := 0) rfl).trans rfl)) hS ?_
  refine ol_pure rfl (op_move rfl) ?_
  have hcell3 : (c.heads.map (Value.int .i64))[r * 1]? = some (.int .i64 c.heads[r]) := by simp [hh]
  have hob := (hS.news (j := 4) rfl _ _ hcell3).1
  refine ol_pure rfl (op_indexN sl_28 rfl rfl (by omega) (by assumption)) ?_
  refine ol_load rfl (op_load1 one_3 rfl (fun w hw => hw.rcell (i := 4) rfl hcell3)) hS ?_
  obtain ⟨a, ha⟩ := Int.eq_ofNat_of_zero_le h0
  refine ol_step rfl (op_callu cf_73 rfl (by rw [ha]; exact wfm_chain_follow_c hS2 a (by simp; omega) (by simpa using hq))) ?_
  clear hS
  rintro _ w ⟨rfl, h', hS'⟩
  refine ol_nil ?_
  refine end0 rfl ?_
  refine ⟨rfl, h', ?_⟩
  have hf : c.met r = ({ c with left := c.left.set r (c.left[r] - 1) } : Ch).follow a := by
    unfold Ch.met
    simp only [List.getD_eq_getElem?_getD, List.getElem?_eq_getElem hr, List.getElem?_eq_getElem hh, Option.getD_some]
    rw [if_pos h20, ha]
    rfl
  rw [hf]
  exact hS'
 ·
  skip
  try simp only [decide_eq_true_eq, decide_eq_false_iff_not, Bool.not_eq_true', Bool.not_eq_false', Bool.not_eq_eq_eq_not, Bool.not_true, Bool.not_false] at h20
  refine cw_skip ?_
  refine end0 rfl ?_
  refine ⟨rfl, h, ?_⟩
  have hf : c.met r = { c with left := c.left.set r (c.left[r] - 1) } := by
    unfold Ch.met
    simp only [List.getD_eq_getElem?_getD, List.getElem?_eq_getElem hr, Option.getD_some]
    rw [if_neg h20]
  rw [hf]
  unfold ChS
  simpa [List.map_set] using hS
end Go.Proofs.Ytmkgechdfimfnaa.K
