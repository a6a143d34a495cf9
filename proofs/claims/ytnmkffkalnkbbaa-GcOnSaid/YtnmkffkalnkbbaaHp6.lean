/-
  Heaps: terms that are got.
  No condition but the premises that each theorem names.
-/
import Derived.Test.YtnmkffkalnkbbaaHp4
namespace Go.Proofs.Ytnmkffkalnkbbaa.K
open Go Go.RowKit
set_option linter.unusedVariables false
set_option linter.unusedSimpArgs false

open Pl
theorem getF_succ {cs : List Cell} {k : Nat} {a : Int} {hv p : Nat} (hp : followC cs a = (p : Int)) (hl : p < cs.length) : getF cs (k + 1) a hv = if cs[p].kind = 1 then [⟨1, ByteArray.empty, (p : Int)⟩] else if cs[p].kind = 2 then [⟨2, ByteArray.empty, cs[p].n⟩] else argsF (getF cs k) (p : Int) hv cs[p].n.toNat [⟨3, cs[p].name, cs[p].n⟩] := by
  conv => lhs; unfold getF
  rw [hp, show ((p : Nat) : Int).toNat = p from rfl, List.getElem?_eq_getElem hl]
theorem argsF_stop {g : Int → Nat → List Cell} {p : Int} {hv : Nat} {out : List Cell} {m : Nat} (h : ¬ hv + (argsF g p hv m out).length ≤ 200) : ∀ d, argsF g p hv (m + d) out = argsF g p hv m out
  | 0 => rfl
  | d + 1 => by
    have ih := argsF_stop h d
    rw [show m + (d + 1) = (m + d) + 1 from rfl, argsF]
    simp only [ih]
    rw [if_neg h]
theorem argsF_go {g : Int → Nat → List Cell} {p : Int} {hv : Nat} {out : List Cell} {m : Nat} (h : hv + (argsF g p hv m out).length ≤ 200) : argsF g p hv (m + 1) out = argsF g p hv m out ++ g (p + 1 + m) (hv + (argsF g p hv m out).length) := by
  rw [argsF, if_pos h]
theorem one_bd {x : Cell} (h : CellBd x) : ∀ c ∈ [x], CellBd c := fun c hc => (by simpa using hc : c = x) ▸ h
def GetC (k : Nat) : Prop := ∀ (G : GH) (w0 : World) (_ : Holds G w0) (hv : Value) (cs : List Cell) (tr : List Int) (room : Int) (_ : EHeap G hv cs tr room) (_ : ShOk cs) (r : Nat → Nat) (_ : IsRk cs r) (_ : cs.length ≤ 1000000) (a : Int) (_ : 0 ≤ a) (_ : a < cs.length) (_ : r a.toNat < k) (hv0 : Nat) (_ : hv0 ≤ 200),
  Calls Try.prog 64 #[hv, .int .i64 a, .int .i64 (hv0 : Nat)] w0 (Rt noG w0 (fun G v => RSl 3 ECell G v (getF cs k a hv0)))
theorem SS.rt_cells {G0 G : GH} {w0 w : World} {M : List Ent} {zs : List Cell} (pre : List Ent) {oa : Option Addr} {n c : Nat} {T : TypeId} (h : SS G0 w0 G (pre ++ .row oa n c T 3 (cellsV zs) :: M) w) (hb : ∀ c ∈ zs, CellBd c) (hn : n = zs.length) : Rt noG w0 (fun G v => RSl 3 ECell G v zs) (.returned (.slice oa n c)) w :=
  h.rt_row pre (by decide) (Rows.cells hb) ECell.mono hn

set_option maxRecDepth 100000 in
set_option maxHeartbeats 1000000 in

theorem R08_get_step_c (k : Nat) (ih : GetC k) (G : GH) (w0 : World) (hG : Holds G w0) (hv : Value) (cs : List Cell) (tr : List Int) (room : Int) (hh : EHeap G hv cs tr room) (hs : ShOk cs) (r : Nat → Nat) (hr : IsRk cs r) (hn : cs.length ≤ 1000000) (a : Int) (h0 : 0 ≤ a) (ha : a < cs.length) (hrk : r a.toNat < k + 1) (hv0 : Nat) (hb : hv0 ≤ 200) :
   Calls Try.prog 64 #[hv, .int .i64 a, .int .i64 (hv0 : Nat)] w0 (Rt noG w0 (fun G v => RSl 3 ECell G v (getF cs (k + 1) a hv0))) := by
 have hh0 := hh
 obtain ⟨oc, cc, ot, ct, rfl, h1, h2⟩ := hh
 have hle := h1.le
 have hle2 := h2.le
 obtain ⟨mf, hf, hf0, hf1⟩ := followC_ex hs ⟨r, hr⟩ h0 ha
 have hfr := followC_rk hs hr h0 ha
 generalize hX : followC cs a = x at hf hf0 hf1 hfr
 obtain ⟨p, rfl⟩ := Int.eq_ofNat_of_zero_le hf0
 have hpl : p < cs.length := by omega
 have hgs := getF_succ (k := k) (hv := hv0) hX hpl
 have hend := hf.end_
 rw [stepF_at hpl] at hend
 obtain ⟨hoc, hbd, hcells⟩ := h1.cellAt hpl
 have hso := hs p hpl
 unfold SlotOk at hso
 simp only [Int.toNat_natCast] at hfr
 refine enter Try.func64 rfl (N := 62) rfl (Nat.le_of_ble_eq_true rfl) ?_
 have hS := SS.init hG
 refine cw_seq (cw_region ?_)
 refine ol_step rfl (op_box hS rfl rfl) ?_
 clear hS
 rintro _ w ⟨b3, rfl, hS⟩
 refine ol_pure rfl (op_assign rfl) (ol_nil (pq_then (cw_seq (cw_region (ol_load rfl (op_loadN agg_28 rfl (by rfl) (fun w hw k u hk => (hw.bcell (i := 0) rfl).trans hk)) hS (ol_pure rfl (op_move rfl) ?_))))))
 refine ol_step rfl (op_call_sc hS cf_53 rfl (R08_Follow_c _ _ hS.hold _ cs tr room hh0 hs a (p : Int) mf h0 ha hf)) ?_
 clear hS
 rintro _ w ⟨rfl, hS⟩
 refine ol_pure rfl (op_assign rfl) (ol_nil (pq_then (cw_seq (cw_region (ol_pure rfl (op_fieldAddr fld_28_0 rfl) (ol_load rfl (op_load1 one_25 rfl (fun w hw => (hw.bcell (i := 0) rfl).trans rfl)) hS (ol_pure rfl (op_move rfl) ?_)))))))
 refine ol_pure rfl (op_indexN sl_25 rfl rfl (by omega) hoc) (ol_load rfl (op_loadN agg_49 rfl (by rfl) (fun w hw k u hk => hw.gcell (hcells k u hk))) hS ?_)
 refine ol_step rfl (op_alloc hS el_49 rfl) ?_
 clear hS
 rintro _ w ⟨b7, rfl, hS⟩
 refine ol_step0  (op_storeN (j := 0) hS sz_49 rfl rfl rfl rfl rfl (by simp [Value.oneCell'])) ?_
 clear hS
 rintro _ w hS; (try simp only [List.nil_append, List.cons_append, List.set] at hS)
 refine ol_nil (pq_then (cw_seq (cw_seq (cw_region (ol_pure rfl (op_fieldAddr fld_49_0 rfl) (ol_load rfl (op_load1 one_3 rfl (fun w hw => (hw.bcell (i := 0) rfl).trans rfl)) hS (ol_pure rfl (op_eql rfl rfl) ?_)))))))
 refine ol_nil (pq_then ?_)
 refine cw_cond rfl (fun h20 => ?_) (fun h20 => ?_)
 ·
  try simp only [dqT, dqF, dq1, dq2, dq3, dq4, dq5] at h20
  refine cw_seq (cw_region (ol_pure rfl (op_move rfl) (ol_pure rfl (op_build (is := [0, 2]) (xs := [.const (.int .i64 (1)), .tmp 21]) (v := .agg #[.int .i64 1, .string ByteArray.empty, .int .i64 (p : Nat)]) rfl rfl (fun w => by kernel_rfl)) ?_)))
  refine ol_step rfl (op_buildSlice (el := 58) (is := [0]) (xs := [.tmp 22]) (sz := 3) (cs := cellsV [⟨1, ByteArray.empty, (p : Int)⟩]) hS rfl rfl (fun w => by kernel_rfl) rfl (by decide)) ?_
  clear hS
  rintro _ w ⟨s23, rfl, hS⟩
  refine ol_pure rfl (op_assign rfl) (ol_nil (pq_then (cw_ret (pq_ret (ret1 rfl rfl ?_)))))
  rw [hgs, if_pos h20]
  exact SS.rt_cells [] hS (one_bd ⟨by simp, by simp only; omega, by simp⟩) rfl
 ·
  try simp only [dqT, dqF, dq1, dq2, dq3, dq4, dq5] at h20
  refine cw_skip (pq_then (cw_seq (cw_seq (cw_region (ol_pure rfl (op_fieldAddr fld_49_0 rfl) (ol_load rfl (op_load1 one_3 rfl (fun w hw => (hw.bcell (i := 0) rfl).trans rfl)) hS (ol_pure rfl (op_eql rfl rfl) ?_)))))))
  refine ol_nil (pq_then ?_)
  refine cw_cond rfl (fun h26 => ?_) (fun h26 => ?_)
  ·
   try simp only [dqT, dqF, dq1, dq2, dq3, dq4, dq5] at h26
   refine cw_seq (cw_region (ol_pure rfl (op_fieldAddr fld_49_2 rfl) (ol_load rfl (op_load1 one_3 rfl (fun w hw => (hw.bcell (i := 0) rfl).trans rfl)) hS (ol_pure rfl (op_build (is := [0, 2]) (xs := [.const (.int .i64 (2)), .tmp 28]) (v := .agg #[.int .i64 2, .string ByteArray.empty, .int .i64 cs[p].n]) rfl rfl (fun w => by kernel_rfl)) ?_))))
   refine ol_step rfl (op_buildSlice (el := 58) (is := [0]) (xs := [.tmp 29]) (sz := 3) (cs := cellsV [⟨2, ByteArray.empty, cs[p].n⟩]) hS rfl rfl (fun w => by kernel_rfl) rfl (by decide)) ?_
   clear hS
   rintro _ w ⟨s30, rfl, hS⟩
   refine ol_pure rfl (op_assign rfl) (ol_nil (pq_then (cw_ret (pq_ret (ret1 rfl rfl ?_)))))
   rw [hgs, if_neg h20, if_pos h26]
   exact SS.rt_cells [] hS (one_bd ⟨by simp, hbd.2.1, by simp⟩) rfl
  ·
   try simp only [dqT, dqF, dq1, dq2, dq3, dq4, dq5] at h26
   refine cw_skip (pq_then (cw_seq ?_))
   have h4 : cs[p].kind = 4 := by
     by_cases h3 : cs[p].kind = 3
     · rw [if_pos (.inr h3)] at hend
       cases hend
     · omega
   have hbd3 : CellBd ⟨3, cs[p].name, cs[p].n⟩ := ⟨by simp, hbd.2.1, hbd.2.2⟩
   have hcur := Le.refl G
   refine cw_region (ol_pure rfl (op_fieldAddr fld_49_1 rfl) (ol_load rfl (op_load1 one_9 rfl (fun w hw => (hw.bcell (i := 0) rfl).trans rfl)) hS (ol_pure rfl (op_fieldAddr fld_49_2 rfl) (ol_load rfl (op_load1 one_3 rfl (fun w hw => (hw.bcell (i := 0) rfl).trans rfl)) hS (ol_pure rfl (op_build (is := [0, 1, 2]) (xs := [.const (.int .i64 (3)), .tmp 32, .tmp 34]) (v := .agg #[.int .i64 3, .string cs[p].name, .int .i64 cs[p].n]) rfl rfl (fun w => by kernel_rfl)) ?_)))))
   refine ol_step rfl (op_buildSlice (el := 58) (is := [0]) (xs := [.tmp 35]) (sz := 3) (cs := cellsV [⟨3, cs[p].name, cs[p].n⟩]) hS rfl rfl (fun w => by kernel_rfl) rfl (by decide)) ?_
   clear hS
   rintro _ w ⟨o8, rfl, hS⟩
   refine ol_pure rfl (op_assign rfl) (ol_nil (pq_then (cw_seq (cw_seq (cw_region (ol_pure rfl (op_assign rfl) (ol_nil ?_)))))))
   refine pq_then (cw_block ?_)
   refine cw_loop (fun e w n => ∃ (Gc : GH) (m : Nat) (oO : Option Addr) (cO : Nat), e = [(1, .int .i64 (p : Nat)), (2, .int .i64 (hv0 : Nat)), (3, .pointer (some ⟨b3, 0, none⟩)), (7, .pointer (some ⟨b7, 0, none⟩)), (8, .slice oO (argsF (getF cs k) (p : Int) hv0 m [⟨3, cs[p].name, cs[p].n⟩]).length cO), (9, .int .i64 (m + 1))] ∧ Le G Gc ∧ (m : Int) ≤ cs[p].n ∧ n = cs[p].n.toNat - m ∧ (∀ c ∈ (argsF (getF cs k) (p : Int) hv0 m [⟨3, cs[p].name, cs[p].n⟩]), CellBd c) ∧ SS G w0 Gc [.row oO (argsF (getF cs k) (p : Int) hv0 m [⟨3, cs[p].name, cs[p].n⟩]).length cO 58 3 (cellsV (argsF (getF cs k) (p : Int) hv0 m [⟨3, cs[p].name, cs[p].n⟩])), .blk b7 49 [.int .i64 cs[p].kind, .string cs[p].name, .int .i64 cs[p].n], .blk b3 28 [.slice oc cs.length cc, .slice ot tr.length ct, .int .i64 room]] w) _ _ (by exact ⟨G, 0, o8, _, rfl, hcur, by omega, rfl, by intro c hc; exact (by simpa [argsF] using hc : c = ⟨3, cs[p].name, cs[p].n⟩) ▸ hbd3, hS⟩) ((Sub.cons rfl (Sub.cons rfl (Sub.cons rfl (Sub.cons rfl (Sub.cons rfl (Sub.cons rfl Sub.nil))))))) ?_
   clear hS
   rintro e w n ⟨Gc, m, oO, cO, rfl, hcur, hm, rfl, hbo, hS⟩
   have hal := argsF_len (g := getF cs k) (p := (p : Int)) (hv := hv0) (out := [⟨3, cs[p].name, cs[p].n⟩]) (by simp; omega) (fun a h hh => getF_len k a h hh) m
   refine cw_seq (cw_seq (cw_region (ol_pure rfl (op_move rfl) (ol_pure rfl (op_fieldAddr fld_49_2 rfl) (ol_load rfl (op_load1 one_3 rfl (fun w hw => (hw.bcell (i := 1) rfl).trans rfl)) hS (ol_pure rfl (op_leq rfl rfl) (ol_pure rfl (op_move rfl) ?_)))))))
   refine ol_split (fun h41 => ?_) (fun h41 => ?_)
   ·
    try simp only [dqT, dqF, dq1, dq2, dq3, dq4, dq5] at h41
    refine ol_guard_pure rfl rfl rfl (op_move rfl) (ol_guard_pure rfl rfl rfl (op_move rfl) (ol_guard_pure rfl rfl rfl (op_len sl_59 rfl rfl) (ol_guard_pure rfl rfl rfl (op_val (v' := .int .i64 ((hv0 + (argsF (getF cs k) (p : Int) hv0 m [⟨3, cs[p].name, cs[p].n⟩]).length : Nat) : Int)) (op_add rfl rfl (by omega) (by omega)) (congrArg (Value.int .i64) (by omega))) (ol_guard_pure rfl rfl rfl (op_leq rfl rfl) (ol_pure rfl (op_pick_t rfl rfl) (ol_nil (pq_then ?_)))))))
    refine cw_cond rfl (fun h47 => ?_) (fun h47 => ?_)
    ·
     try simp only [dqT, dqF, dq1, dq2, dq3, dq4, dq5] at h47
     have hgo := argsF_go (g := getF cs k) (p := (p : Int)) (hv := hv0) (out := [⟨3, cs[p].name, cs[p].n⟩]) (m := m) (by omega)
     have hlq : ((p + 1 + m : Nat) : Int) ∈ leadsI cs (p : Int) := by
       rw [leadsI_at hpl, if_neg (by omega), if_pos h4]
       exact List.mem_map.2 ⟨m, List.mem_range.2 (by omega), by omega⟩
     have hrq := hr p hpl _ hlq
     have hgl := getF_len (cs := cs) k ((p : Int) + 1 + (m : Nat)) (hv0 + (argsF (getF cs k) (p : Int) hv0 m [⟨3, cs[p].name, cs[p].n⟩]).length) (by omega)
     refine cw_skip (pq_then (cw_seq (cw_block (cw_region (ol_pure rfl (op_move rfl) (ol_load rfl (op_loadN agg_28 rfl (by rfl) (fun w hw k u hk => (hw.bcell (i := 2) rfl).trans hk)) hS (ol_pure rfl (op_move rfl) ?_)))))))
     refine ol_pure rfl (op_move rfl) (ol_pure rfl (op_val (v' := .int .i64 ((p : Int) + 1 + (m : Nat))) (op_add rfl rfl (by omega) (by omega)) (congrArg (Value.int .i64) (by omega))) (ol_pure rfl (op_move rfl) (ol_pure rfl (op_move rfl) (ol_pure rfl (op_len sl_59 rfl rfl) (ol_pure rfl (op_val (v' := .int .i64 ((hv0 + (argsF (getF cs k) (p : Int) hv0 m [⟨3, cs[p].name, cs[p].n⟩]).length : Nat) : Int)) (op_add rfl rfl (by omega) (by omega)) (congrArg (Value.int .i64) (by omega))) ?_)))))
     refine ol_step rfl (op_call_fr hS cf_64 rfl (ih _ _ hS.hold _ cs tr room (hh0.mono hcur) hs r hr hn ((p : Int) + 1 + (m : Nat)) (by omega) (by omega) (by rw [show ((p : Int) + 1 + (m : Nat)).toNat = p + 1 + m from by omega]; omega) (hv0 + (argsF (getF cs k) (p : Int) hv0 m [⟨3, cs[p].name, cs[p].n⟩]).length) (by omega))) ?_
     clear hS
     rintro v59 w ⟨F59, G59, hR59, hF59, hf59, hl59, hS⟩
     obtain ⟨oQ, cQ, rfl, _, _⟩ := hR59.elim
     replace hR59 := hR59.mono ECell.mono hf59
     replace hcur := hcur.trans hl59
     have hbq := hR59.cellBd
     refine ol_step rfl (op_append (j := 0) (m := (getF cs k ((p : Int) + 1 + (m : Nat)) (hv0 + (argsF (getF cs k) (p : Int) hv0 m [⟨3, cs[p].name, cs[p].n⟩]).length)).length) (news := cellsV (getF cs k ((p : Int) + 1 + (m : Nat)) (hv0 + (argsF (getF cs k) (p : Int) hv0 m [⟨3, cs[p].name, cs[p].n⟩]).length))) hS sl_59 el_58 rfl rfl rfl rfl rfl (cellsV_len _) (by decide) (hR59.newsC hS.hold) (ones_c _) (by omega) (by unfold maxLen; omega)) ?_
     clear hS
     rintro _ w ⟨oq, c_oq, rfl, hS⟩; (try simp only [List.nil_append, List.cons_append, List.set] at hS)
     refine ol_pure rfl (op_assign rfl) (ol_nil (pq_in_normal (pq_then (cw_region (ol_pure rfl (op_move rfl) (ol_pure rfl (op_add rfl rfl (by omega) (by omega)) (ol_pure rfl (op_assign rfl) ?_)))))))
     refine ol_nil ?_
     have he : (argsF (getF cs k) (p : Int) hv0 m [⟨3, cs[p].name, cs[p].n⟩]).length + (getF cs k ((p : Int) + 1 + (m : Nat)) (hv0 + (argsF (getF cs k) (p : Int) hv0 m [⟨3, cs[p].name, cs[p].n⟩]).length)).length = (argsF (getF cs k) (p : Int) hv0 (m + 1) [⟨3, cs[p].name, cs[p].n⟩]).length := by rw [hgo, List.length_append]
     rw [he] at hS ⊢
     refine pq_loop _ _ (by exact ⟨_, m + 1, oq, c_oq, rfl, hcur, by omega, rfl, by rw [hgo]; intro c hc; exact (List.mem_append.1 hc).elim (hbo c) (hbq c), by rw [hgo, cellsV_app, ← hgo]; exact hS⟩) (Sub.cons rfl (Sub.cons rfl (Sub.cons rfl (Sub.cons rfl (Sub.cons rfl (Sub.cons rfl (Sub.nil))))))) (by omega)
    ·
     try simp only [dqT, dqF, dq1, dq2, dq3, dq4, dq5] at h47
     refine cw_exit (pq_exit (pq_exit (pq_in_exit (pq_then (cw_seq (cw_region (ol_pure rfl (op_move rfl) ?_)))))))
     refine ol_pure rfl (op_assign rfl) (ol_nil (pq_then (cw_ret (ret1 rfl rfl ?_))))
     have hst := argsF_stop (g := getF cs k) (p := (p : Int)) (hv := hv0) (out := [⟨3, cs[p].name, cs[p].n⟩]) (m := m) (by omega) (cs[p].n.toNat - m)
     rw [show m + (cs[p].n.toNat - m) = cs[p].n.toNat from by omega] at hst
     rw [hgs, if_neg h20, if_neg h26, hst]
     exact SS.rt_cells [] hS hbo rfl
   ·
    try simp only [dqT, dqF, dq1, dq2, dq3, dq4, dq5] at h41
    refine ol_guard_no rfl rfl rfl rfl (ol_guard_no rfl rfl rfl rfl (ol_guard_no rfl rfl rfl rfl (ol_guard_no rfl rfl rfl rfl (ol_guard_no rfl rfl rfl rfl (ol_pure rfl (op_pick_f rfl rfl) (ol_nil (pq_then ?_)))))))
    refine cw_cond_f rfl (cw_exit (pq_exit (pq_exit (pq_in_exit (pq_then (cw_seq (cw_region ?_)))))))
    refine ol_pure rfl (op_move rfl) (ol_pure rfl (op_assign rfl) (ol_nil (pq_then (cw_ret (ret1 rfl rfl ?_)))))
    rw [hgs, if_neg h20, if_neg h26, show cs[p].n.toNat = m from by omega]
    exact SS.rt_cells [] hS hbo rfl
theorem getC : ∀ k, GetC k
  | 0 => fun _ _ _ _ _ _ _ _ _ _ _ _ _ _ _ h => absurd h (Nat.not_lt_zero _)
  | k + 1 => fun G w0 hG hv cs tr room hh hs r hr hn a h0 ha hrk hv0 hb => R08_get_step_c k (getC k) G w0 hG hv cs tr room hh hs r hr hn a h0 ha hrk hv0 hb
theorem getC_I (G : GH) (w0 : World) (hG : Holds G w0) (hv : Value) (cs : List Cell) (tr : List Int) (room : Int) (hh : EHeap G hv cs tr room) (hs : ShOk cs) (hr : Rk cs) (hn : cs.length ≤ 1000000) (a : Int) (h0 : 0 ≤ a) (ha : a < cs.length) :
    Calls Try.prog 64 #[hv, .int .i64 a, .int .i64 0] w0 (Rt noG w0 (fun G v => RSl 3 ECell G v (getI cs a))) := by
  obtain ⟨r, h1, h2⟩ := hr.small hs
  exact getC cs.length G w0 hG hv cs tr room hh hs r h1 hn a h0 ha (h2 _ (by omega)) 0 (by omega)
theorem endI_cells : ∀ (l : List Cell) (o i : Int), 0 ≤ i → endI l o i = i + l.length → ∀ c ∈ l, cellB c = true
  | [], _, _, _, _, c, hc => by cases hc
  | x :: l, o, i, h0, h, c, hc => by
    rw [endI] at h
    simp only [List.length_cons] at h
    by_cases h1 : cellB x = true
    · rw [if_pos h1] at h
      by_cases h2 : stepE x o = 0
      · rw [if_pos h2] at h
        have hl : l = [] := List.eq_nil_of_length_eq_zero (by omega)
        subst hl
        have : c = x := by simpa using hc
        rw [this]; exact h1
      · rw [if_neg h2] at h
        rcases List.mem_cons.1 hc with rfl | hc
        · exact h1
        · exact endI_cells l (stepE x o) (i + 1) (by omega) (by omega) c hc
    · rw [if_neg h1] at h
      omega
theorem rightT_cells {t : List Cell} (h : rightT t = true) : ∀ c ∈ t, cellB c = true := by
  simp only [rightT, Bool.and_eq_true, decide_eq_true_eq] at h
  exact endI_cells t 1 0 (by omega) (by omega)
theorem cellB_var {c : Cell} (h : cellB c = true) (hk : c.kind = 1) : 0 ≤ c.n ∧ c.n ≤ 999 := by
  simp [cellB, hk] at h
  omega
def movC (to : List Int) (c : Cell) : Cell := if c.kind = 1 ∧ c.n < to.length then ⟨c.kind, c.name, valI to c.n⟩ else c
def termsI (to : List Int) (t : List Cell) : List Cell := t.map (movC to)
theorem sameT_refl (t : List Cell) : sameT t t = true := by
  induction t with
  | nil => rfl
  | cons x t ih => simp [sameT, ih, sameC]
theorem terms_set {to : List Int} {t : List Cell} {k : Nat} (h : k < t.length) : (termsI to (t.take k) ++ t.drop k).set k (movC to t[k]) = termsI to (t.take (k + 1)) ++ t.drop (k + 1) := by
  have hl : (termsI to (t.take k)).length = k := by simp [termsI]; omega
  rw [List.set_append_right _ _ (by omega), hl, Nat.sub_self, List.drop_eq_getElem_cons h, List.set_cons_zero, List.take_succ_eq_append_getElem h]
  unfold termsI
  rw [List.map_append, List.append_assoc]
  rfl
theorem terms_at {to : List Int} {t : List Cell} {k : Nat} (h : k < t.length) : (termsI to (t.take k) ++ t.drop k)[k]? = some t[k] := by
  have hl : (termsI to (t.take k)).length = k := by simp [termsI]; omega
  rw [List.getElem?_append_right (by omega), hl, Nat.sub_self, List.getElem?_drop, Nat.add_zero, List.getElem?_eq_getElem h]
theorem terms_len {to : List Int} {t : List Cell} {k : Nat} (h : k ≤ t.length) : (termsI to (t.take k) ++ t.drop k).length = t.length := by
  simp [termsI]
  omega
theorem cellsV_setN {cs : List Cell} {i : Nat} (h : i < cs.length) (y : Int) : (cellsV cs).set (i * 3 + 2) (.int .i64 y) = cellsV (cs.set i ⟨cs[i].kind, cs[i].name, y⟩) := by
  have h1 : cs = cs.take i ++ cs[i] :: cs.drop (i + 1) := by rw [List.getElem_cons_drop, List.take_append_drop]
  have h2 : cellsV cs = cellsV (cs.take i) ++ (cellV cs[i] ++ cellsV (cs.drop (i + 1))) := by
    conv => lhs; rw [h1]
    rw [cellsV_app]
    rfl
  have h3 : (cellsV (cs.take i)).length = i * 3 := by rw [cellsV_len]; simp; omega
  have h4 : cs.set i ⟨cs[i].kind, cs[i].name, y⟩ = cs.take i ++ ⟨cs[i].kind, cs[i].name, y⟩ :: cs.drop (i + 1) := by rw [List.set_eq_take_append_cons_drop, if_pos h]
  rw [h4, cellsV_app, h2, List.set_append_right _ _ (by omega), h3, show i * 3 + 2 - i * 3 = 2 from by omega]
  simp [cellV, cellsV]
theorem cellsV_el {cs : List Cell} {i : Nat} {x : Cell} (h : cs[i]? = some x) {r : Nat} (hr : r < 3) : (cellsV cs)[i * 3 + r]? = (cellV x)[r]? := by
  obtain ⟨h1, rfl⟩ := List.getElem?_eq_some_iff.1 h
  exact cellsV_at h1 hr
/-- Do all roots of a heap have the terms that others have in another one, moved? -/
def AlikeP (cs : List Cell) (roots : List Int) (cs2 : List Cell) (moved to : List Int) : Prop := roots.length = moved.length ∧ ∀ (i : Nat) (h : i < roots.length) (h' : i < moved.length), getT cs2 moved[i] = (getT cs roots[i]).map (termsI to)
theorem getT_cells {cs : List Cell} {a : Int} {t : List Cell} (h : getT cs a = some t) : ∀ c ∈ t, cellB c = true := by
  unfold getT at h
  split at h
  · split at h
    · rename_i h1
      obtain rfl : getI cs a = t := by simpa using h
      exact rightT_cells h1
    · cases h
  · cases h
theorem getI_len (cs : List Cell) (a : Int) : (getI cs a).length ≤ 201 := by
  have := getF_len (cs := cs) cs.length a 0 (by omega)
  unfold getI
  omega

set_option maxRecDepth 100000 in
set_option maxHeartbeats 400000 in

theorem R08_Get_c (G : GH) (w0 : World) (hG : Holds G w0) (hv : Value) (cs : List Cell) (tr : List Int) (room : Int) (hh : EHeap G hv cs tr room) (hs : ShOk cs) (hr : Rk cs) (hn : cs.length ≤ 1000000) (a : Int) :
   Calls Try.prog 50 #[hv, .int .i64 a] w0 (Rt noG w0 (fun G v => ∃ u, v = .tuple #[u, .bool (getT cs a).isSome] ∧ RSl 3 ECell G u ((getT cs a).getD []))) := by
 have hh0 := hh
 obtain ⟨oc, cc, ot, ct, rfl, h1, h2⟩ := hh
 have hle := h1.le
 have hle2 := h2.le
 refine enter Try.func50 rfl (N := 18) rfl (Nat.le_of_ble_eq_true rfl) ?_
 have hS := SS.init hG
 refine cw_seq (cw_region ?_)
 refine ol_step rfl (op_box hS rfl rfl) ?_
 clear hS
 rintro _ w ⟨b2, rfl, hS⟩
 refine ol_pure rfl (op_assign rfl) (ol_pure rfl (op_assign rfl) (ol_nil (pq_then (cw_seq (cw_seq (cw_region (ol_load rfl (op_loadN agg_28 rfl (by rfl) (fun w hw k u hk => (hw.bcell (i := 0) rfl).trans hk)) hS ?_)))))))
 refine ol_pure rfl (op_move rfl) ?_
 refine ol_step rfl (op_call_sc hS cf_35 rfl (R08_Is_c _ _ hS.hold _ cs tr room hh0 a)) ?_
 clear hS
 rintro _ w ⟨rfl, hS⟩
 refine ol_pure rfl (op_not rfl) (ol_nil (pq_then ?_))
 refine cw_cond rfl (fun h10 => ?_) (fun h10 => ?_)
 ·
  try simp only [dqT, dqF, dq1, dq2, dq3, dq4, dq5] at h10
  have hgt : getT cs a = none := by unfold getT; rw [if_neg (by rw [h10]; simp)]
  refine cw_seq (cw_region (ol_pure rfl (op_assign rfl) (ol_pure rfl (op_assign rfl) (ol_nil (pq_then (cw_ret (pq_ret ?_)))))))
  refine ret2 rfl rfl rfl ?_
  rw [hgt]
  exact hS.rt_fr (F := noG) (fun b o hb => by cases hb) (fun _ _ => rfl) ⟨_, rfl, RSl.nil _⟩
 ·
  try simp only [dqT, dqF, dq1, dq2, dq3, dq4, dq5] at h10
  have hin := isP_iff.1 h10
  refine cw_skip (pq_then (cw_seq (cw_region (ol_load rfl (op_loadN agg_28 rfl (by rfl) (fun w hw k u hk => (hw.bcell (i := 0) rfl).trans hk)) hS (ol_pure rfl (op_move rfl) ?_)))))
  refine ol_step rfl (op_call_fr hS cf_64 rfl (getC_I _ _ hS.hold _ cs tr room hh0 hs hr hn a hin.1 hin.2)) ?_
  clear hS
  rintro v13 w ⟨F13, G13, hR13, hF13, hf13, hl13, hS⟩
  obtain ⟨o6, c6, rfl, _, _⟩ := hR13.elim
  refine ol_pure rfl (op_assign rfl) (ol_nil (pq_then (cw_seq (cw_seq (cw_region (ol_pure rfl (op_move rfl) ?_))))))
  refine ol_step rfl (op_call_sc hS cf_61 rfl (R01_Right_c _ _ hS.hold _ (getI cs a) (hR13.mono ECell.mono hf13))) ?_
  clear hS
  rintro _ w ⟨rfl, hS⟩
  refine ol_pure rfl (op_not rfl) (ol_nil (pq_then ?_))
  refine cw_cond rfl (fun h16 => ?_) (fun h16 => ?_)
  ·
   try simp only [dqT, dqF, dq1, dq2, dq3, dq4, dq5] at h16
   have hgt : getT cs a = none := by unfold getT; rw [if_pos h10, if_neg (by rw [h16]; simp)]
   refine cw_seq (cw_region (ol_pure rfl (op_assign rfl) (ol_pure rfl (op_assign rfl) (ol_nil (pq_then (cw_ret (pq_ret ?_)))))))
   refine ret2 rfl rfl rfl ?_
   rw [hgt]
   exact hS.rt_fr (F := noG) (fun b o hb => by cases hb) (fun _ _ => rfl) ⟨_, rfl, RSl.nil _⟩
  ·
   try simp only [dqT, dqF, dq1, dq2, dq3, dq4, dq5] at h16
   have hgt : getT cs a = some (getI cs a) := by unfold getT; rw [if_pos h10, if_pos h16]
   refine cw_skip (pq_then (cw_seq (cw_region (ol_pure rfl (op_move rfl) (ol_pure rfl (op_assign rfl) (ol_pure rfl (op_assign rfl) (ol_nil ?_)))))))
   refine pq_then (cw_ret ?_)
   refine ret2 rfl rfl rfl ?_
   rw [hgt]
   exact hS.rt_fr hf13 hF13 ⟨_, rfl, hR13⟩
set_option maxRecDepth 100000 in
set_option maxHeartbeats 1000000 in

theorem R09_Terms_c (G : GH) (w0 : World) (hG : Holds G w0) (u v : Value) (to : List Int) (t : List Cell) (h1 : RSl 1 EInt G u to) (h2 : RSl 3 ECell G v t) (hn : t.length ≤ 1000000) (hnn : ∀ c ∈ t, c.kind = 1 → 0 ≤ c.n) :
   Calls Try.prog 52 #[u, v] w0 (Rt noG w0 (fun G v => RSl 3 ECell G v (termsI to t))) := by
 obtain ⟨oT, cT, rfl, _, _⟩ := h1.elim
 obtain ⟨oa, ca, rfl, _, _⟩ := h2.elim
 have hle := h1.le
 refine enter Try.func52 rfl (N := 45) rfl (Nat.le_of_ble_eq_true rfl) ?_
 have hS := SS.init hG
 refine cw_seq (cw_region (ol_pure rfl (op_assign rfl) (ol_nil (pq_then (cw_seq (cw_region ?_))))))
 refine ol_step rfl (op_buildSlice (el := 58) (is := []) (xs := []) (sz := 3) (cs := []) hS rfl rfl (fun w => by kernel_rfl) rfl (by decide)) ?_
 clear hS
 rintro _ w ⟨o5, rfl, hS⟩
 refine ol_pure rfl (op_move rfl) ?_
 refine ol_step rfl (op_append (j := 0) (m := t.length) (news := cellsV t) hS sl_59 el_58 rfl rfl rfl rfl rfl (cellsV_len t) (by decide) (h2.newsC hS.hold) (ones_c t) (by omega) (by unfold maxLen; omega)) ?_
 clear hS
 rintro _ w ⟨oq, c_oq, rfl, hS⟩; (try simp only [List.nil_append, List.cons_append, List.set] at hS)
 rw [Nat.zero_add] at hS
 refine ol_pure rfl (op_assign rfl) (ol_nil (pq_then (cw_seq (cw_seq (cw_region (ol_pure rfl (op_assign rfl) (ol_nil ?_)))))))
 refine pq_then (cw_block ?_)
 refine cw_loop (fun e w n => ∃ (k : Nat) (oO : Option Addr) (l5 cO : Nat), e = [(0, .slice oT to.length cT), (5, .slice oO l5 cO), (6, .int .i64 (k : Nat))] ∧ l5 = t.length ∧ k ≤ t.length ∧ n = t.length - k ∧ SS G w0 G [.row oO t.length cO 58 3 (cellsV (termsI to (t.take k) ++ t.drop k))] w) _ _ (by exact ⟨0, oq, 0 + t.length, _, rfl, Nat.zero_add _, Nat.zero_le _, rfl, hS⟩) ((Sub.cons rfl (Sub.cons rfl (Sub.cons rfl Sub.nil)))) ?_
 clear hS
 rintro e w n ⟨k, oO, l5, cO, rfl, rfl, hk, rfl, hS⟩
 refine cw_seq (cw_seq (cw_region (ol_pure rfl (op_move rfl) (ol_pure rfl (op_move rfl) (ol_pure rfl (op_len sl_59 rfl rfl) (ol_pure rfl (op_lss rfl rfl) (ol_nil ?_)))))))
 refine pq_then ?_
 refine cw_cond rfl (fun h13 => ?_) (fun h13 => ?_)
 ·
  try simp only [dqT, dqF, dq1, dq2, dq3, dq4, dq5] at h13
  have hlt : k < t.length := by omega
  have hat := terms_at (to := to) hlt
  have hln := terms_len (to := to) (t := t) (k := k) (by omega)
  have hce : ∀ r, r < 3 → (cellsV (termsI to (t.take k) ++ t.drop k))[k * 3 + r]? = (cellV t[k])[r]? := fun r hr => cellsV_el hat hr
  have hok := (hS.news (j := 0) rfl (k * 3 + 0) _ (hce 0 (by omega))).1
  have hst := terms_set (to := to) hlt
  have hbk := h2.cellBd _ (List.getElem_mem hlt)
  refine cw_skip (pq_then (cw_seq (cw_block (cw_seq (cw_region (ol_pure rfl (op_move rfl) (ol_pure rfl (op_move rfl) ?_)))))))
  refine ol_pure rfl (op_indexN (n := t.length) sl_59 rfl rfl hlt hok) (ol_pure rfl (op_fieldAddr fld_58_0 rfl) (ol_load rfl (op_load1 one_3 rfl (fun w hw => hw.rcellF (j := 0) (i := k * 3) (f := 0) rfl (hce 0 (by omega)))) hS (ol_pure rfl (op_eql rfl rfl) (ol_pure rfl (op_move rfl) ?_))))
  refine ol_split (fun h22 => ?_) (fun h22 => ?_)
  ·
   try simp only [dqT, dqF, dq1, dq2, dq3, dq4, dq5] at h22
   refine ol_guard_pure rfl rfl rfl (op_move rfl) (ol_guard_pure rfl rfl rfl (op_move rfl) (ol_guard_pure rfl rfl rfl (op_indexN (n := t.length) sl_59 rfl rfl hlt hok) (ol_guard_pure rfl rfl rfl (op_fieldAddr fld_58_2 rfl) (ol_guard_load rfl rfl rfl (op_load1 one_3 rfl (fun w hw => hw.rcellF (j := 0) (i := k * 3) (f := 2) rfl (hce 2 (by omega)))) hS (ol_guard_pure rfl rfl rfl (op_move rfl) (ol_guard_pure rfl rfl rfl (op_len sl_26 rfl rfl) (ol_guard_pure rfl rfl rfl (op_lss rfl rfl) ?_)))))))
   refine ol_pure rfl (op_pick_t rfl rfl) (ol_nil (pq_then ?_))
   refine cw_cond rfl (fun h31 => ?_) (fun h31 => ?_)
   ·
    try simp only [dqT, dqF, dq1, dq2, dq3, dq4, dq5] at h31
    have hk0 := hnn _ (List.getElem_mem hlt) h22
    obtain ⟨q, hq⟩ := Int.eq_ofNat_of_zero_le hk0
    have hql : q < to.length := by omega
    obtain ⟨hoT, hcq, hbT⟩ := h1.int hql
    have hmv : movC to t[k] = ⟨t[k].kind, t[k].name, to[q]⟩ := by rw [movC, if_pos ⟨h22, by omega⟩, hq, valI_at hql]
    refine cw_region (ol_pure rfl (op_move rfl) (ol_pure rfl (op_move rfl) (ol_pure rfl (op_move rfl) (ol_pure rfl (op_move rfl) (ol_pure rfl (op_move rfl) (ol_pure rfl (op_indexN (n := t.length) sl_59 rfl rfl hlt hok) (ol_pure rfl (op_fieldAddr fld_58_2 rfl) ?_)))))))
    refine ol_load rfl (op_load1 one_3 rfl (fun w hw => hw.rcellF (j := 0) (i := k * 3) (f := 2) rfl (hce 2 (by omega)))) hS (ol_pure rfl (op_indexAddr (i := t[k].n) (n := to.length) sl_26 rfl rfl (by omega) (by omega) hoT) (ol_load rfl (op_load1 (v := .int .i64 to[q]) one_3 rfl (fun w hw => hw.gcell (by rw [hq]; exact hcq))) hS (ol_pure rfl (op_indexN (n := t.length) sl_59 rfl rfl hlt hok) (ol_pure rfl (op_fieldAddr fld_58_2 rfl) ?_))))
    refine ol_step0  (op_storeRF (j := 0) (i := k * 3) (f := 2) hS sz_3 rfl rfl rfl rfl (by rw [cellsV_len, hln]; omega)) ?_
    clear hS
    rintro _ w hS; (try simp only [List.nil_append, List.cons_append, List.set] at hS)
    have hgk : ((termsI to (t.take k) ++ t.drop k))[k]'(by rw [hln]; exact hlt) = t[k] := (List.getElem?_eq_some_iff.1 hat).2
    rw [cellsV_setN (by rw [hln]; exact hlt), hgk, ← hmv, hst] at hS
    refine ol_nil (pq_in_normal (pq_then (cw_region (ol_pure rfl (op_move rfl) (ol_pure rfl (op_add rfl rfl (by omega) (by omega)) (ol_pure rfl (op_assign rfl) (ol_nil ?_)))))))
    refine pq_loop _ _ (by exact ⟨k + 1, oO, _, cO, rfl, rfl, by omega, rfl, hS⟩) ((Sub.cons rfl (Sub.cons rfl (Sub.cons rfl Sub.nil)))) (by omega)
   ·
    try simp only [dqT, dqF, dq1, dq2, dq3, dq4, dq5] at h31
    refine cw_skip (pq_in_normal (pq_then (cw_region (ol_pure rfl (op_move rfl) (ol_pure rfl (op_add rfl rfl (by omega) (by omega)) (ol_pure rfl (op_assign rfl) (ol_nil ?_)))))))
    refine pq_loop _ _ (by exact ⟨k + 1, oO, _, cO, rfl, rfl, by omega, rfl, by rw [← hst, movC, if_neg (by omega)]; rw [show ((termsI to (t.take k) ++ t.drop k)).set k t[k] = (termsI to (t.take k) ++ t.drop k) from set_self hat]; exact hS⟩) ((Sub.cons rfl (Sub.cons rfl (Sub.cons rfl Sub.nil)))) (by omega)
  ·
   try simp only [dqT, dqF, dq1, dq2, dq3, dq4, dq5] at h22
   refine ol_guard_no rfl rfl rfl rfl (ol_guard_no rfl rfl rfl rfl (ol_guard_no rfl rfl rfl rfl (ol_guard_no rfl rfl rfl rfl (ol_guard_no rfl rfl rfl rfl (ol_guard_no rfl rfl rfl rfl (ol_guard_no rfl rfl rfl rfl (ol_guard_no rfl rfl rfl rfl ?_)))))))
   refine ol_pure rfl (op_pick_f rfl rfl) (ol_nil (pq_then (cw_cond_f rfl (cw_skip (pq_in_normal (pq_then (cw_region ?_)))))))
   refine ol_pure rfl (op_move rfl) (ol_pure rfl (op_add rfl rfl (by omega) (by omega)) (ol_pure rfl (op_assign rfl) (ol_nil ?_)))
   refine pq_loop _ _ (by exact ⟨k + 1, oO, _, cO, rfl, rfl, by omega, rfl, by rw [← hst, movC, if_neg (by omega)]; rw [show ((termsI to (t.take k) ++ t.drop k)).set k t[k] = (termsI to (t.take k) ++ t.drop k) from set_self hat]; exact hS⟩) ((Sub.cons rfl (Sub.cons rfl (Sub.cons rfl Sub.nil)))) (by omega)
 ·
  try simp only [dqT, dqF, dq1, dq2, dq3, dq4, dq5] at h13
  refine cw_exit (pq_exit (pq_exit (pq_in_exit (pq_then (cw_seq (cw_region (ol_pure rfl (op_move rfl) ?_)))))))
  refine ol_pure rfl (op_assign rfl) (ol_nil (pq_then (cw_ret (ret1 rfl rfl ?_))))
  obtain rfl : k = t.length := by omega
  rw [List.take_length, List.drop_length, List.append_nil] at hS
  refine SS.rt_cells [] hS (fun c hc => ?_) (by simp [termsI])
  obtain ⟨d, hd, rfl⟩ := List.mem_map.1 hc
  have hb := h2.cellBd d hd
  unfold movC
  split
  · rename_i hx
    refine ⟨hb.1, ?_, hb.2.2⟩
    have h0 := hnn d hd hx.1
    exact h1.bnd _ (valI_mem h0 hx.2)
  · exact hb
end Go.Proofs.Ytnmkffkalnkbbaa.K
