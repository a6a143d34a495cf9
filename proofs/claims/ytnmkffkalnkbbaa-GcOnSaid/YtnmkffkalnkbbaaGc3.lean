/-
  A collection, of the document.
  No condition but the premises that each theorem names.
-/
import Derived.Test.YtnmkffkalnkbbaaGc2
namespace Go.Proofs.Ytnmkffkalnkbbaa.K
open Go Go.RowKit
set_option linter.unusedVariables false
set_option linter.unusedSimpArgs false

open Pl
theorem cellsM_succ {to : List Int} {cs : List Cell} {k : Nat} (ht : to.length = cs.length) (h : k < cs.length) : cellsC to (to.take (k + 1)) (cs.take (k + 1)) = cellsC to (to.take k) (cs.take k) ++ if 0 ≤ to[k] then [slotM to cs[k]] else [] := cellsC_succ to (by omega) h
theorem cellsM_end {to : List Int} {cs : List Cell} {k : Nat} (ht : to.length = cs.length) (h : cs.length ≤ k) : cellsC to (to.take k) (cs.take k) = cellsM to cs := by
  rw [List.take_of_length_le (by omega), List.take_of_length_le h]
  rfl
def cellV (c : Cell) : List Value := [.int .i64 c.kind, .string c.name, .int .i64 c.n]
def cellsV (cs : List Cell) : List Value := cs.flatMap cellV
theorem cellsV_len (cs : List Cell) : (cellsV cs).length = cs.length * 3 := by
  induction cs with
  | nil => rfl
  | cons c cs ih =>
    have : cellsV (c :: cs) = cellV c ++ cellsV cs := rfl
    rw [this, List.length_append, ih]
    simp [cellV]
    omega
theorem cellsV_app (a b : List Cell) : cellsV (a ++ b) = cellsV a ++ cellsV b := by simp [cellsV]
def CellBd (c : Cell) : Prop := (-9223372036854775808 ≤ c.kind ∧ c.kind ≤ 9223372036854775807) ∧ (-9223372036854775808 ≤ c.n ∧ c.n ≤ 9223372036854775807) ∧ c.name.size ≤ 9223372036854775807
theorem Rows.cells {G : GH} {cs : List Cell} (h : ∀ c ∈ cs, CellBd c) : Rows 3 ECell G (cellsV cs) cs := by
  induction cs with
  | nil => exact Rows.nil _
  | cons c cs ih =>
    have h1 := (Rows.nil (sz := 3) (E := ECell) G).snoc (x := c) (cs := cellV c) rfl ⟨rfl, h c (by simp)⟩
    have := h1.app (ih fun x hx => h x (by simp [hx]))
    simpa [cellsV] using this
theorem RSl.cellBd {G : GH} {v : Value} {cs : List Cell} (h : RSl 3 ECell G v cs) : ∀ c ∈ cs, CellBd c := fun c hc => by
  obtain ⟨oa, cc, rfl, _, _⟩ := h.elim
  obtain ⟨i, hi, rfl⟩ := List.getElem_of_mem hc
  exact (h.cellAt hi).2.1
theorem slotM_bd {to : List Int} {c : Cell} (hb : CellBd c) (ht : ∀ x ∈ to, -9223372036854775808 ≤ x ∧ x ≤ 9223372036854775807) : CellBd (slotM to c) := by
  unfold slotM
  split
  · refine ⟨hb.1, ?_, hb.2.2⟩
    show -9223372036854775808 ≤ valI to c.n ∧ valI to c.n ≤ 9223372036854775807
    by_cases h : c.n.toNat < to.length
    · have : valI to c.n = to[c.n.toNat] := by simp [valI, h]
      rw [this]
      exact ht _ (List.getElem_mem h)
    · have : valI to c.n = 0 := by simp [valI, h]
      rw [this]
      omega
  · exact hb
theorem cellsC_mem {to : List Int} : ∀ {ts : List Int} {cs : List Cell} {x : Cell}, x ∈ cellsC to ts cs → ∃ c ∈ cs, x = slotM to c
  | t :: ts, c :: cs, x, h => by
    rw [cellsC] at h
    split at h
    · rcases List.mem_cons.1 h with rfl | h
      · exact ⟨c, by simp, rfl⟩
      · obtain ⟨d, h1, h2⟩ := cellsC_mem h
        exact ⟨d, by simp [h1], h2⟩
    · obtain ⟨d, h1, h2⟩ := cellsC_mem h
      exact ⟨d, by simp [h1], h2⟩
  | [], _, x, h => by simp [cellsC] at h
  | _ :: _, [], x, h => by simp [cellsC] at h
theorem cellsC_le {to : List Int} : ∀ {ts : List Int} {cs : List Cell}, (cellsC to ts cs).length ≤ cs.length
  | t :: ts, c :: cs => by
    have := cellsC_le (to := to) (ts := ts) (cs := cs)
    rw [cellsC]
    split <;> simp <;> omega
  | [], _ => by simp [cellsC]
  | _ :: _, [] => by simp [cellsC]
/-- What a collection hands back. -/
def ColR (to tr roots : List Int) (cs : List Cell) (ms : List Mk) (room : Int) (G : GH) (v : Value) : Prop := ∃ hv vr vm, v = .tuple #[hv, vr, vm] ∧ EHeap G hv (cellsM to cs) (trailM to tr) room ∧ RSl 1 EInt G vr (toI to roots) ∧ RSl 3 EMk G vm (ms.map (markM to tr))
theorem ColR.mono {to tr roots : List Int} {cs : List Cell} {ms : List Mk} {room : Int} : ∀ (G1 G2 : GH) (v : Value), Le G1 G2 → ColR to tr roots cs ms room G1 v → ColR to tr roots cs ms room G2 v :=
  fun _ _ _ hl ⟨hv, vr, vm, h1, h2, h3, h4⟩ => ⟨hv, vr, vm, h1, h2.mono hl, h3.mono EInt.mono hl, h4.mono EMk.mono hl⟩
theorem SS.give' {G0 G : GH} {w0 w : World} {M : List Ent} {α : Type} {E : ER α} (zs : List α) (pre : List Ent) {oa : Option Addr} {n c : Nat} {T : TypeId} {sz : Nat} {xs : List Value} (hE : EMono E) (h : SS G0 w0 G (pre ++ .row oa n c T sz xs :: M) w) (hsz : 0 < sz) (hr : Rows sz E G xs zs) (hn : n = zs.length) :
    ∃ G', Le G G' ∧ SS G0 w0 G' (pre ++ M) w ∧ RSl sz E G' (.slice oa n c) zs := h.give pre hsz hE hr hn
theorem map_take_succ {α β : Type} (f : α → β) {l : List α} {k : Nat} (h : k < l.length) : (l.take (k + 1)).map f = (l.take k).map f ++ [f l[k]] := by
  rw [List.take_succ_eq_append_getElem h, List.map_append]
  rfl

set_option maxRecDepth 100000 in
set_option maxHeartbeats 2000000 in

theorem R09_Collect_c (G : GH) (w0 : World) (hG : Holds G w0) (hv : Value) (cs : List Cell) (tr : List Int) (room : Int) (hh : EHeap G hv cs tr room) (hs : ShOk cs) (hn : cs.length ≤ 1000000) (u : Value) (roots : List Int) (h3 : RSl 1 EInt G u roots) (u3 : Value) (ms : List Mk) (h4 : RSl 3 EMk G u3 ms) (hrl : roots.length ≤ 1000) (hml : ms.length ≤ 100) (hmr : ∀ m ∈ ms, m.roots.length ≤ 1000) (hmk : ∀ m ∈ ms, MkOk cs.length tr.length m) (htn : tr.length ≤ 1000000)  :
   Calls Try.prog 17 #[hv, u, u3] w0 (Rt G w0 (ColR (movedI (liveB cs (allI roots ms))) tr roots cs ms room)) := by
 have hh0 := hh
 obtain ⟨oc, cc, ot, ct, rfl, h1, h2⟩ := hh
 have hle := h1.le
 have hle2 := h2.le
 have hct := h2.len
 obtain ⟨oa, ca, rfl, hla, hma⟩ := h3.elim
 obtain ⟨om, cm, rfl, hlm, hmm⟩ := h4.elim
 refine enter Try.func17 rfl (N := 104) rfl (Nat.le_of_ble_eq_true rfl) ?_
 have hS := SS.init hG
 refine cw_seq (cw_region ?_)
 refine ol_step rfl (op_box hS rfl rfl) ?_
 clear hS
 rintro _ w ⟨b3, rfl, hS⟩
 refine ol_step rfl (op_alloc hS el_28 rfl) ?_
 clear hS
 rintro _ w ⟨b6, rfl, hS⟩
 refine ol_pure rfl (op_assign rfl) (ol_pure rfl (op_assign rfl) (ol_nil (pq_then (cw_seq ?_))))
 have hcur := Le.refl G
 refine cw_region (ol_load rfl (op_loadN agg_28 rfl (by rfl) (fun w hw k u hk => (hw.bcell (i := 1) rfl).trans hk)) hS (ol_pure rfl (op_move rfl) (ol_pure rfl (op_move rfl) ?_)))
 refine ol_step rfl (op_call_fr hS cf_22 rfl (R09_Moved_c _ _ hS.hold _ cs tr room (hh0.mono hcur) hs hn _ roots (h3.mono EInt.mono hcur) _ ms (h4.mono EMk.mono hcur) hrl hml hmr)) ?_
 clear hS
 rintro v19 w ⟨F19, G19, hR19, hF19, hf19, hl19, hS⟩
 have hto0 : (movedI (liveB cs (allI roots ms))).length = cs.length := by rw [movedI_len, liveB_len]
 obtain ⟨oV, cV, rfl, hVc, _⟩ := hR19.elimN hto0
 replace hR19 := hR19.mono EInt.mono hf19
 replace hcur := hcur.trans hl19
 generalize hTe : (movedI (liveB cs (allI roots ms))) = to at hR19 hto0
 have hto : to.length = cs.length := hto0
 have htb := hR19.bnd
 refine ol_pure rfl (op_assign rfl) (ol_nil (pq_then (cw_seq ?_)))
 refine al_start' hS (hS.take 2) (by kernel_rfl) rfl (fun w hS hT => ?_)
 refine al_take (i := 0) rfl (by kernel_rfl) (by kernel_rfl) (by kernel_rfl) rfl (fun _ _ _ h => h) (op_fieldAddr fld_28_2 rfl) rfl (al_load (i := 1) rfl (by kernel_rfl) (by kernel_rfl) (by kernel_rfl) rfl (fun _ _ _ h => h) (by exact op_load1 one_3 rfl (fun w hw => (hw.bcell (i := 1) rfl).trans rfl)) rfl hT (al_take (i := 2) rfl (by kernel_rfl) (by kernel_rfl) (by kernel_rfl) rfl (fun _ _ _ h => h) (op_move rfl) rfl (al_take (i := 3) rfl (by kernel_rfl) (by kernel_rfl) (by kernel_rfl) rfl (fun _ _ _ h => h) (op_fieldAddr fld_28_1 rfl) rfl (al_load (i := 4) rfl (by kernel_rfl) (by kernel_rfl) (by kernel_rfl) rfl (fun _ _ _ h => h) (by exact op_load1 one_26 rfl (fun w hw => (hw.bcell (i := 1) rfl).trans rfl)) rfl hT ?_))))
 refine al_meet (fuel2 := 1) (ds2 := [8, 7, 6, 5, 4, 3, 2, 1, 0]) (fun e w => ∃ (Gx : GH) (oT : Option Addr) (cT : Nat) (b10 : Nat), e = [(1, .slice oa roots.length ca), (2, .slice om ms.length cm), (3, .pointer (some ⟨b3, 0, none⟩)), (6, .pointer (some ⟨b6, 0, none⟩)), (9, .slice oV cs.length cV), (10, .pointer (some ⟨b10, 0, none⟩)), (27, .agg #[.slice none 0 0, .slice oT (trailM to tr).length cT, .int .i64 room])] ∧ Le G Gx ∧ Le G19 Gx ∧ RSl 1 EInt Gx (.slice oV cs.length cV) to ∧ RSl 1 EInt Gx (.slice oT (trailM to tr).length cT) (trailM to tr) ∧ SS G w0 Gx [.blk b10 28 [.slice none 0 0, .slice none 0 0, .int .i64 0], .blk b6 28 [.slice none 0 0, .slice none 0 0, .int .i64 0], .blk b3 28 [.slice oc cs.length cc, .slice ot tr.length ct, .int .i64 room]] w) (fun K2 => ?_) ?_
 ·
  refine al_two (i := 5) (j := 8) (by kernel_rfl) (fun a ha => ?_) (fun a ha => ?_)
  ·
   refine wpOp_of_opk (i := 5) rfl ha (op_call_fr hS cf_43 rfl (R09_To_c _ _ hS.hold _ _ to tr hR19 (h2.mono EInt.mono hcur) (by omega))) ?_
   clear hS
   rintro v25 w ⟨F25, G25, hR25, hF25, hf25, hl25, hS⟩
   obtain ⟨oQ, cQ, rfl, _, _⟩ := hR25.elim
   have htl := toI_len to tr
   replace hR25 := hR25.mono EInt.mono hf25
   replace hR19 := hR19.mono EInt.mono hl25
   replace hcur := hcur.trans hl25
   have hT := hT.back hS (by first | exact Le.refl _ | assumption) (fun x hx => by try simp only [bkA, bkB, bkC, bkD, bkE] at hx; (rcases hx with rfl | rfl) <;> simp)
   refine ⟨fun _ _ => hT, ?_⟩
   refine al_at ?_ (ha.put (blt_lt rfl) _)
   refine al_two (i := 6) (j := 8) (by kernel_rfl) (fun a ha => ?_) (fun a ha => ?_)
   ·
    refine wpOp_of_opk (i := 6) rfl ha (op_call_fr hS cf_42 rfl (R09_some_c _ _ hS.hold _ (toI to tr) hR25 (by omega))) ?_
    clear hS
    rintro v26 w ⟨F26, G26, hR26, hF26, hf26, hl26, hS⟩
    obtain ⟨oT, cT, rfl, _, _⟩ := hR26.elim
    replace hR26 := hR26.mono EInt.mono hf26
    replace hR19 := hR19.mono EInt.mono hl26
    replace hcur := hcur.trans hl26
    have hx26 := hl25.trans hl26
    have hT := hT.back hS (by first | exact Le.refl _ | assumption) (fun x hx => by try simp only [bkA, bkB, bkC, bkD, bkE] at hx; (rcases hx with rfl | rfl) <;> simp)
    refine ⟨fun _ _ => hT, ?_⟩
    refine al_at ?_ (ha.put (blt_lt rfl) _)
    refine al_take (i := 7) rfl (by kernel_rfl) (by kernel_rfl) (by kernel_rfl) rfl (fun _ _ _ h => h) (op_build (is := [2, 1]) (xs := [.tmp 21, .tmp 26]) (v := .agg #[.slice none 0 0, .slice oT (trailM to tr).length cT, .int .i64 room]) rfl rfl (fun w => by kernel_rfl)) rfl ?_
    refine al_step (i := 8) rfl (by kernel_rfl) rfl (op_alloc hS el_28 rfl) ?_
    clear hS
    rintro _ w ⟨b10, rfl, hS⟩
    have hT := hT.back hS (by first | exact Le.refl _ | assumption) (fun x hx => by try simp only [bkA, bkB, bkC, bkD, bkE] at hx; (rcases hx with rfl | rfl) <;> simp)
    refine ⟨fun _ _ => hT, ?_⟩
    exact K2 _ _ _ _ (by kernel_rfl) (by exact ⟨_, oT, cT, b10, rfl, hcur, hx26, hR19, hR26, hS⟩) ((Sub.cons rfl (Sub.cons rfl (Sub.cons rfl (Sub.cons rfl (Sub.cons rfl (Sub.cons rfl (Sub.cons rfl Sub.nil))))))))
   ·
    refine wpOp_of_opk (i := 8) rfl ha (op_alloc hS el_28 rfl) ?_
    clear hS
    rintro _ w ⟨b10, rfl, hS⟩
    have hT := hT.back hS (by first | exact Le.refl _ | assumption) (fun x hx => by try simp only [bkA, bkB, bkC, bkD, bkE] at hx; (rcases hx with rfl | rfl) <;> simp)
    refine ⟨fun _ _ => hT, ?_⟩
    refine al_at ?_ (ha.put (blt_lt rfl) _)
    refine al_step (i := 6) rfl (by kernel_rfl) rfl (op_call_fr hS cf_42 rfl (R09_some_c _ _ hS.hold _ (toI to tr) hR25 (by omega))) ?_
    clear hS
    rintro v26 w ⟨F26, G26, hR26, hF26, hf26, hl26, hS⟩
    obtain ⟨oT, cT, rfl, _, _⟩ := hR26.elim
    replace hR26 := hR26.mono EInt.mono hf26
    replace hR19 := hR19.mono EInt.mono hl26
    replace hcur := hcur.trans hl26
    have hx26 := hl25.trans hl26
    have hT := hT.back hS (by first | exact Le.refl _ | assumption) (fun x hx => by try simp only [bkA, bkB, bkC, bkD, bkE] at hx; (rcases hx with rfl | rfl) <;> simp)
    refine ⟨fun _ _ => hT, ?_⟩
    refine al_take (i := 7) rfl (by kernel_rfl) (by kernel_rfl) (by kernel_rfl) rfl (fun _ _ _ h => h) (op_build (is := [2, 1]) (xs := [.tmp 21, .tmp 26]) (v := .agg #[.slice none 0 0, .slice oT (trailM to tr).length cT, .int .i64 room]) rfl rfl (fun w => by kernel_rfl)) rfl ?_
    exact K2 _ _ _ _ (by kernel_rfl) (by exact ⟨_, oT, cT, b10, rfl, hcur, hx26, hR19, hR26, hS⟩) ((Sub.cons rfl (Sub.cons rfl (Sub.cons rfl (Sub.cons rfl (Sub.cons rfl (Sub.cons rfl (Sub.cons rfl Sub.nil))))))))
  ·
   refine wpOp_of_opk (i := 8) rfl ha (op_alloc hS el_28 rfl) ?_
   clear hS
   rintro _ w ⟨b10, rfl, hS⟩
   have hT := hT.back hS (by first | exact Le.refl _ | assumption) (fun x hx => by try simp only [bkA, bkB, bkC, bkD, bkE] at hx; (rcases hx with rfl | rfl) <;> simp)
   refine ⟨fun _ _ => hT, ?_⟩
   refine al_at ?_ (ha.put (blt_lt rfl) _)
   refine al_step (i := 5) rfl (by kernel_rfl) rfl (op_call_fr hS cf_43 rfl (R09_To_c _ _ hS.hold _ _ to tr hR19 (h2.mono EInt.mono hcur) (by omega))) ?_
   clear hS
   rintro v25 w ⟨F25, G25, hR25, hF25, hf25, hl25, hS⟩
   obtain ⟨oQ, cQ, rfl, _, _⟩ := hR25.elim
   have htl := toI_len to tr
   replace hR25 := hR25.mono EInt.mono hf25
   replace hR19 := hR19.mono EInt.mono hl25
   replace hcur := hcur.trans hl25
   have hT := hT.back hS (by first | exact Le.refl _ | assumption) (fun x hx => by try simp only [bkA, bkB, bkC, bkD, bkE] at hx; (rcases hx with rfl | rfl) <;> simp)
   refine ⟨fun _ _ => hT, ?_⟩
   refine al_step (i := 6) rfl (by kernel_rfl) rfl (op_call_fr hS cf_42 rfl (R09_some_c _ _ hS.hold _ (toI to tr) hR25 (by omega))) ?_
   clear hS
   rintro v26 w ⟨F26, G26, hR26, hF26, hf26, hl26, hS⟩
   obtain ⟨oT, cT, rfl, _, _⟩ := hR26.elim
   replace hR26 := hR26.mono EInt.mono hf26
   replace hR19 := hR19.mono EInt.mono hl26
   replace hcur := hcur.trans hl26
   have hx26 := hl25.trans hl26
   have hT := hT.back hS (by first | exact Le.refl _ | assumption) (fun x hx => by try simp only [bkA, bkB, bkC, bkD, bkE] at hx; (rcases hx with rfl | rfl) <;> simp)
   refine ⟨fun _ _ => hT, ?_⟩
   refine al_take (i := 7) rfl (by kernel_rfl) (by kernel_rfl) (by kernel_rfl) rfl (fun _ _ _ h => h) (op_build (is := [2, 1]) (xs := [.tmp 21, .tmp 26]) (v := .agg #[.slice none 0 0, .slice oT (trailM to tr).length cT, .int .i64 room]) rfl rfl (fun w => by kernel_rfl)) rfl ?_
   exact K2 _ _ _ _ (by kernel_rfl) (by exact ⟨_, oT, cT, b10, rfl, hcur, hx26, hR19, hR26, hS⟩) ((Sub.cons rfl (Sub.cons rfl (Sub.cons rfl (Sub.cons rfl (Sub.cons rfl (Sub.cons rfl (Sub.cons rfl Sub.nil))))))))
 ·
  have hTo := hT
  clear hS hT
  rintro e w ⟨Gx, oT, cT, b10, rfl, hcx, hx26, hRV, hRT, hS⟩
  have hT := hTo.back hS (by first | exact Le.refl _ | assumption) (fun x hx => by try simp only [bkA, bkB, bkC, bkD, bkE] at hx; (rcases hx with rfl | rfl) <;> simp)
  clear hTo
  clear hcur hR19
  have hcur := hcx
  clear hcx
  refine al_step0 (i := 9) rfl (by kernel_rfl) (op_storeN (j := 0) hS sz_28 rfl rfl rfl rfl rfl (by simp [Value.oneCell'])) ?_
  clear hS
  rintro _ w hS; (try simp only [List.nil_append, List.cons_append, List.set] at hS)
  refine ⟨no_need (by kernel_rfl), ?_⟩
  refine al_done (by kernel_rfl) (pq_then (cw_seq (cw_seq ?_)))
  replace hS := SS.ins [_] hS 49 3
  simp only [List.cons_append, List.nil_append] at hS
  refine cw_region (ol_pure rfl (op_assign rfl) (ol_nil (pq_then (cw_block ?_))))
  refine cw_loop (fun e w n => ∃ (k : Nat) (oC : Option Addr) (lC cC : Nat), e = [(1, .slice oa roots.length ca), (2, .slice om ms.length cm), (3, .pointer (some ⟨b3, 0, none⟩)), (6, .pointer (some ⟨b6, 0, none⟩)), (9, .slice oV cs.length cV), (10, .pointer (some ⟨b10, 0, none⟩)), (11, .int .i64 (k : Nat))] ∧ k ≤ cs.length ∧ n = cs.length - k ∧ lC = (cellsC to (to.take k) (cs.take k)).length ∧ SS G w0 Gx [.blk b10 28 [.slice oC lC cC, .slice oT (trailM to tr).length cT, .int .i64 room], .row oC lC cC 49 3 (cellsV (cellsC to (to.take k) (cs.take k))), .blk b6 28 [.slice none 0 0, .slice none 0 0, .int .i64 0], .blk b3 28 [.slice oc cs.length cc, .slice ot tr.length ct, .int .i64 room]] w) _ _ (by exact ⟨0, none, 0, 0, rfl, Nat.zero_le _, rfl, by simp [cellsC], by simpa [cellsC, cellsV] using hS⟩) ((Sub.cons rfl (Sub.cons rfl (Sub.cons rfl (Sub.cons rfl (Sub.cons rfl (Sub.cons rfl (Sub.cons rfl Sub.nil)))))))) ?_
  clear hS
  rintro e w n ⟨k, oC, lC, cC, rfl, hk, rfl, hlC, hS⟩
  refine cw_seq (cw_seq (cw_region (ol_pure rfl (op_move rfl) (ol_pure rfl (op_fieldAddr fld_28_0 rfl) (ol_load rfl (op_load1 one_25 rfl (fun w hw => (hw.bcell (i := 3) rfl).trans rfl)) hS (ol_pure rfl (op_len sl_25 rfl rfl) (ol_pure rfl (op_lss rfl rfl) ?_)))))))
  refine ol_nil (pq_then ?_)
  refine cw_cond rfl (fun h32 => ?_) (fun h32 => ?_)
  ·
   try simp only [dqT, dqF, dq1, dq2, dq3, dq4, dq5] at h32
   have hlt : k < cs.length := by omega
   obtain ⟨hoc, hbd, hcells⟩ := (h1.mono ECell.mono hcur).cellAt hlt
   have htk : k < to.length := by omega
   obtain ⟨hov, hcv, hbv⟩ := hRV.int htk
   have hcu := cellsM_succ hto hlt
   have hcle := cellsC_le (to := to) (ts := to.take k) (cs := cs.take k)
   simp only [List.length_take] at hcle
   have hso := hs k hlt
   unfold SlotOk at hso
   refine cw_skip (pq_then (cw_seq (cw_block (cw_seq (cw_region (ol_pure rfl (op_fieldAddr fld_28_0 rfl) (ol_load rfl (op_load1 one_25 rfl (fun w hw => (hw.bcell (i := 3) rfl).trans rfl)) hS ?_)))))))
   refine ol_pure rfl (op_move rfl) (ol_pure rfl (op_indexN sl_25 rfl rfl (by omega) hoc) (ol_load rfl (op_loadN agg_49 rfl (by rfl) (fun w hw k u hk => hw.gcell (hcells k u hk))) hS ?_))
   refine ol_step rfl (op_alloc hS el_49 rfl) ?_
   clear hS
   rintro _ w ⟨b12, rfl, hS⟩
   refine ol_step0  (op_storeN (j := 0) hS sz_49 rfl rfl rfl rfl rfl (by simp [Value.oneCell'])) ?_
   clear hS
   rintro _ w hS; (try simp only [List.nil_append, List.cons_append, List.set] at hS)
   refine ol_nil (pq_then (cw_seq (cw_seq (cw_region (ol_pure rfl (op_move rfl) (ol_pure rfl (op_move rfl) (ol_pure rfl (op_indexN sl_26 rfl rfl (by omega) hov) ?_)))))))
   refine ol_load rfl (op_load1 one_3 rfl (fun w hw => hw.gcell hcv)) hS (ol_pure rfl (op_lss rfl rfl) (ol_nil (pq_then ?_)))
   refine cw_cond rfl (fun h44 => ?_) (fun h44 => ?_)
   ·
    try simp only [dqT, dqF, dq1, dq2, dq3, dq4, dq5] at h44
    refine cw_exit (pq_exit (pq_in_exit (pq_then (cw_region (ol_pure rfl (op_move rfl) (ol_pure rfl (op_add rfl rfl (by omega) (by omega)) (ol_pure rfl (op_assign rfl) ?_)))))))
    refine ol_nil ?_
    refine pq_loop _ _ (by exact ⟨k + 1, oC, lC, cC, rfl, by omega, rfl, by rw [hcu, if_neg (by omega), List.append_nil]; exact hlC, by rw [hcu, if_neg (by omega), List.append_nil]; exact SS.drop [] hS⟩) ((Sub.cons rfl (Sub.cons rfl (Sub.cons rfl (Sub.cons rfl (Sub.cons rfl (Sub.cons rfl (Sub.cons rfl Sub.nil)))))))) (by omega)
   ·
    try simp only [dqT, dqF, dq1, dq2, dq3, dq4, dq5] at h44
    refine cw_skip (pq_then ?_)
    refine cw_cut (fun e w => e = [(1, .slice oa roots.length ca), (2, .slice om ms.length cm), (3, .pointer (some ⟨b3, 0, none⟩)), (6, .pointer (some ⟨b6, 0, none⟩)), (9, .slice oV cs.length cV), (10, .pointer (some ⟨b10, 0, none⟩)), (11, .int .i64 (k : Nat)), (12, .pointer (some ⟨b12, 0, none⟩))] ∧ SS G w0 Gx [.blk b12 49 (cellV (slotM to cs[k])), .blk b10 28 [.slice oC lC cC, .slice oT (trailM to tr).length cT, .int .i64 room], .row oC lC cC 49 3 (cellsV (cellsC to (to.take k) (cs.take k))), .blk b6 28 [.slice none 0 0, .slice none 0 0, .int .i64 0], .blk b3 28 [.slice oc cs.length cc, .slice ot tr.length ct, .int .i64 room]] w) ?_ ?_
    ·
     refine cw_seq (cw_region (ol_pure rfl (op_fieldAddr fld_49_0 rfl) (ol_load rfl (op_load1 one_3 rfl (fun w hw => (hw.bcell (i := 0) rfl).trans rfl)) hS (ol_pure rfl (op_eql rfl rfl) (ol_pure rfl (op_move rfl) ?_)))))
     refine ol_split (fun h48 => ?_) (fun h48 => ?_)
     ·
      try simp only [dqT, dqF, dq1, dq2, dq3, dq4, dq5] at h48
      refine ol_guard_no rfl rfl rfl rfl (ol_guard_no rfl rfl rfl rfl (ol_guard_no rfl rfl rfl rfl (ol_pure rfl (op_pick_t rfl rfl) (ol_nil (pq_then (cw_cond_t rfl ?_))))))
      have hx13 : cs[k].kind = 1 ∨ cs[k].kind = 3 := by omega
      obtain ⟨q, hq⟩ : ∃ q : Nat, cs[k].n = q := Int.eq_ofNat_of_zero_le (a := cs[k].n) (by omega)
      have hql : q < to.length := by omega
      obtain ⟨hoq, hcq, hbq⟩ := hRV.int hql
      refine cw_region (ol_pure rfl (op_move rfl) (ol_pure rfl (op_fieldAddr fld_49_2 rfl) (ol_load rfl (op_load1 one_3 rfl (fun w hw => (hw.bcell (i := 0) rfl).trans rfl)) hS (ol_pure rfl (op_indexAddr (i := cs[k].n) (n := cs.length) sl_26 rfl rfl (by omega) (by omega) hoq) (ol_load rfl (op_load1 (v := .int .i64 to[q]) one_3 rfl (fun w hw => hw.gcell (by rw [hq]; exact hcq))) hS (ol_pure rfl (op_fieldAddr fld_49_2 rfl) ?_))))))
      refine ol_step0  (op_storeB (j := 0) (k := 2) hS sz_3 rfl rfl rfl rfl (by simp)) ?_
      clear hS
      rintro _ w hS; (try simp only [List.nil_append, List.cons_append, List.set] at hS)
      refine ol_nil ?_
      refine pq_cut _ (by exact (by first | (have hm : slotM to cs[k] = ⟨cs[k].kind, cs[k].name, to[q]⟩ := (by rw [slotM, if_pos hx13, hq, valI_at hql]); rw [hm]; exact ⟨rfl, hS⟩) | (have hm : slotM to cs[k] = cs[k] := (by rw [slotM, if_neg (by omega)]); rw [hm]; exact ⟨rfl, hS⟩))) ((Sub.cons rfl (Sub.cons rfl (Sub.cons rfl (Sub.cons rfl (Sub.cons rfl (Sub.cons rfl (Sub.cons rfl (Sub.cons rfl Sub.nil)))))))))
     ·
      try simp only [dqT, dqF, dq1, dq2, dq3, dq4, dq5] at h48
      refine ol_guard_pure rfl rfl rfl (op_fieldAddr fld_49_0 rfl) (ol_guard_load rfl rfl rfl (op_load1 one_3 rfl (fun w hw => (hw.bcell (i := 0) rfl).trans rfl)) hS (ol_guard_pure rfl rfl rfl (op_eql rfl rfl) (ol_pure rfl (op_pick_f rfl rfl) (ol_nil (pq_then ?_)))))
      refine cw_cond rfl (fun h52 => ?_) (fun h52 => ?_)
      ·
       try simp only [dqT, dqF, dq1, dq2, dq3, dq4, dq5] at h52
       have hx13 : cs[k].kind = 1 ∨ cs[k].kind = 3 := by omega
       obtain ⟨q, hq⟩ : ∃ q : Nat, cs[k].n = q := Int.eq_ofNat_of_zero_le (a := cs[k].n) (by omega)
       have hql : q < to.length := by omega
       obtain ⟨hoq, hcq, hbq⟩ := hRV.int hql
       refine cw_region (ol_pure rfl (op_move rfl) (ol_pure rfl (op_fieldAddr fld_49_2 rfl) (ol_load rfl (op_load1 one_3 rfl (fun w hw => (hw.bcell (i := 0) rfl).trans rfl)) hS (ol_pure rfl (op_indexAddr (i := cs[k].n) (n := cs.length) sl_26 rfl rfl (by omega) (by omega) hoq) (ol_load rfl (op_load1 (v := .int .i64 to[q]) one_3 rfl (fun w hw => hw.gcell (by rw [hq]; exact hcq))) hS (ol_pure rfl (op_fieldAddr fld_49_2 rfl) ?_))))))
       refine ol_step0  (op_storeB (j := 0) (k := 2) hS sz_3 rfl rfl rfl rfl (by simp)) ?_
       clear hS
       rintro _ w hS; (try simp only [List.nil_append, List.cons_append, List.set] at hS)
       refine ol_nil ?_
       refine pq_cut _ (by exact (by first | (have hm : slotM to cs[k] = ⟨cs[k].kind, cs[k].name, to[q]⟩ := (by rw [slotM, if_pos hx13, hq, valI_at hql]); rw [hm]; exact ⟨rfl, hS⟩) | (have hm : slotM to cs[k] = cs[k] := (by rw [slotM, if_neg (by omega)]); rw [hm]; exact ⟨rfl, hS⟩))) ((Sub.cons rfl (Sub.cons rfl (Sub.cons rfl (Sub.cons rfl (Sub.cons rfl (Sub.cons rfl (Sub.cons rfl (Sub.cons rfl Sub.nil)))))))))
      ·
       try simp only [dqT, dqF, dq1, dq2, dq3, dq4, dq5] at h52
       refine cw_skip ?_
       refine pq_cut _ (by exact (by first | (have hm : slotM to cs[k] = ⟨cs[k].kind, cs[k].name, to[q]⟩ := (by rw [slotM, if_pos hx13, hq, valI_at hql]); rw [hm]; exact ⟨rfl, hS⟩) | (have hm : slotM to cs[k] = cs[k] := (by rw [slotM, if_neg (by omega)]); rw [hm]; exact ⟨rfl, hS⟩))) ((Sub.cons rfl (Sub.cons rfl (Sub.cons rfl (Sub.cons rfl (Sub.cons rfl (Sub.cons rfl (Sub.cons rfl (Sub.cons rfl Sub.nil)))))))))
    clear hS
    rintro e w ⟨rfl, hS⟩
    unfold cellV at hS
    refine cw_region (ol_pure rfl (op_fieldAddr fld_28_0 rfl) (ol_load rfl (op_load1 one_25 rfl (fun w hw => (hw.bcell (i := 1) rfl).trans rfl)) hS (ol_load rfl (op_loadN agg_49 rfl (by rfl) (fun w hw k u hk => (hw.bcell (i := 0) rfl).trans hk)) hS ?_)))
    refine ol_step rfl (op_buildSlice (el := 49) (is := [0]) (xs := [.tmp 61]) (sz := 3) (cs := cellV (slotM to cs[k])) hS rfl rfl (fun w => by kernel_rfl) rfl (by decide)) ?_
    clear hS
    rintro _ w ⟨s62, rfl, hS⟩
    refine ol_step rfl (op_append (j := 3) hS sl_25 el_49 rfl rfl rfl rfl rfl rfl (by decide) (hS.news (j := 0) rfl) (by simp [cellV, Value.oneCell']) (by omega) (by unfold maxLen; omega)) ?_
    clear hS
    rintro _ w ⟨oq, c_oq, rfl, hS⟩; (try simp only [List.nil_append, List.cons_append, List.set] at hS); replace hS := SS.drop [] hS; (try simp only [List.nil_append, List.cons_append] at hS)
    refine ol_pure rfl (op_fieldAddr fld_28_0 rfl) ?_
    refine ol_step0  (op_storeB (j := 1) (k := 0) hS sz_25 rfl rfl rfl rfl (by simp)) ?_
    clear hS
    rintro _ w hS; (try simp only [List.nil_append, List.cons_append, List.set] at hS)
    refine ol_nil (pq_in_normal (pq_then (cw_region (ol_pure rfl (op_move rfl) (ol_pure rfl (op_add rfl rfl (by omega) (by omega)) (ol_pure rfl (op_assign rfl) (ol_nil ?_)))))))
    refine pq_loop _ _ (by exact ⟨k + 1, oq, lC + 1, c_oq, rfl, by omega, rfl, by rw [hcu, if_pos (by omega), List.length_append, ← hlC]; rfl, by rw [hcu, if_pos (by omega), cellsV_app]; simpa [cellsV] using SS.drop [] hS⟩) ((Sub.cons rfl (Sub.cons rfl (Sub.cons rfl (Sub.cons rfl (Sub.cons rfl (Sub.cons rfl (Sub.cons rfl Sub.nil)))))))) (by omega)
  ·
   try simp only [dqT, dqF, dq1, dq2, dq3, dq4, dq5] at h32
   rw [cellsM_end hto (by omega)] at hS hlC
   refine cw_exit (pq_exit (pq_exit (pq_in_exit (pq_then (cw_seq ?_)))))
   have hcx := Le.refl Gx
   refine cw_region ?_
   refine ol_step rfl (op_buildSlice (el := 46) (is := []) (xs := []) (sz := 3) (cs := []) hS rfl rfl (fun w => by kernel_rfl) rfl (by decide)) ?_
   clear hS
   rintro _ w ⟨mk, rfl, hS⟩
   refine ol_pure rfl (op_assign rfl) (ol_nil (pq_then (cw_seq (cw_seq ?_))))
   replace hS := SS.back1 [_, _, _, _] hS
   simp only [List.cons_append, List.nil_append] at hS
   refine cw_region (ol_pure rfl (op_assign rfl) (ol_nil (pq_then (cw_block ?_))))
   refine cw_loop (fun e w n => ∃ (Gc : GH) (j : Nat) (oM : Option Addr) (cM : Nat) (us : List Value), e = [(1, .slice oa roots.length ca), (2, .slice om ms.length cm), (3, .pointer (some ⟨b3, 0, none⟩)), (6, .pointer (some ⟨b6, 0, none⟩)), (9, .slice oV cs.length cV), (10, .pointer (some ⟨b10, 0, none⟩)), (13, .slice oM j cM), (14, .int .i64 (j : Nat))] ∧ Le Gx Gc ∧ j ≤ ms.length ∧ n = ms.length - j ∧ Rows 3 EMk Gc us ((ms.take j).map (markM to tr)) ∧ SS G w0 Gc [.blk b10 28 [.slice oC lC cC, .slice oT (trailM to tr).length cT, .int .i64 room], .row oC lC cC 49 3 (cellsV (cellsM to cs)), .blk b6 28 [.slice none 0 0, .slice none 0 0, .int .i64 0], .blk b3 28 [.slice oc cs.length cc, .slice ot tr.length ct, .int .i64 room], .row oM j cM 46 3 us] w) _ _ (by exact ⟨Gx, 0, mk, 0, [], rfl, hcx, Nat.zero_le _, rfl, Rows.nil _, hS⟩) ((Sub.cons rfl (Sub.cons rfl (Sub.cons rfl (Sub.cons rfl (Sub.cons rfl (Sub.cons rfl (Sub.cons rfl (Sub.cons rfl Sub.nil))))))))) ?_
   clear hS
   rintro e w n ⟨Gc, j, oM, cM, us, rfl, hcx, hj, rfl, hus, hS⟩
   refine cw_seq (cw_seq (cw_region (ol_pure rfl (op_move rfl) (ol_pure rfl (op_move rfl) (ol_pure rfl (op_len sl_29 rfl rfl) (ol_pure rfl (op_lss rfl rfl) (ol_nil ?_)))))))
   refine pq_then ?_
   refine cw_cond rfl (fun h69 => ?_) (fun h69 => ?_)
   ·
    try simp only [dqT, dqF, dq1, dq2, dq3, dq4, dq5] at h69
    have hjl : j < ms.length := by omega
    obtain ⟨hom, o9, d9, hr9, hb9, hc9⟩ := (h4.mono EMk.mono (hcur.trans hcx)).mkAt hjl
    have hmo := hmk _ (List.getElem_mem hjl)
    unfold MkOk at hmo
    obtain ⟨a, ha⟩ := Int.eq_ofNat_of_zero_le hmo.1.1
    obtain ⟨t, ht⟩ := Int.eq_ofNat_of_zero_le hmo.2.1
    have hal : a ≤ cs.length := by omega
    have htl : t ≤ tr.length := by omega
    have hm9 := hmr _ (List.getElem_mem hjl)
    have hRV1 := hRV.mono EInt.mono hcx
    have hRt1 := h2.mono EInt.mono (hcur.trans hcx)
    have hmtk := map_take_succ (markM to tr) hjl
    have hmd : markM to tr ms[j] = ⟨((someI (to.take a)).length : Nat), ((someI (toI to (tr.take t))).length : Nat), toI to ms[j].roots⟩ := by
      unfold markM
      rw [ha, ht]
      rfl
    refine cw_skip (pq_then (cw_seq (cw_block (cw_seq (cw_region (ol_pure rfl (op_move rfl) (ol_pure rfl (op_move rfl) ?_)))))))
    refine ol_pure rfl (op_indexN sl_29 rfl rfl (by omega) hom) (ol_load rfl (op_loadN agg_46 rfl (by rfl) (fun w hw k u hk => hw.gcell (hc9 k u hk))) hS ?_)
    refine ol_step rfl (op_alloc hS el_46 rfl) ?_
    clear hS
    rintro _ w ⟨b15, rfl, hS⟩
    refine ol_step0  (op_storeN (j := 0) hS sz_46 rfl rfl rfl rfl rfl (by simp [Value.oneCell'])) ?_
    clear hS
    rintro _ w hS; (try simp only [List.nil_append, List.cons_append, List.set] at hS)
    refine ol_nil (pq_then ?_)
    rw [ha, ht] at hS
    refine al_start' hS (hS.take 5) (by kernel_rfl) rfl (fun w hS hT => ?_)
    refine al_take (i := 0) rfl (by kernel_rfl) (by kernel_rfl) (by kernel_rfl) rfl (fun _ _ _ h => h) (op_move rfl) rfl (al_take (i := 1) rfl (by kernel_rfl) (by kernel_rfl) (by kernel_rfl) rfl (fun _ _ _ h => h) (op_move rfl) rfl (al_take (i := 2) rfl (by kernel_rfl) (by kernel_rfl) (by kernel_rfl) rfl (fun _ _ _ h => h) (op_fieldAddr fld_46_0 rfl) rfl (al_load (i := 3) rfl (by kernel_rfl) (by kernel_rfl) (by kernel_rfl) rfl (fun _ _ _ h => h) (by exact op_load1 one_3 rfl (fun w hw => (hw.bcell (i := 0) rfl).trans rfl)) rfl hT (al_take (i := 4) rfl (by kernel_rfl) (by kernel_rfl) (by kernel_rfl) rfl (fun _ _ _ h => h) (op_sliceP (c := cV) (h := a) sl_26 rfl rfl (by omega)) rfl (al_take (i := 7) rfl (by kernel_rfl) (by kernel_rfl) (by kernel_rfl) rfl (fun _ _ _ h => h) (op_move rfl) rfl (al_take (i := 8) rfl (by kernel_rfl) (by kernel_rfl) (by kernel_rfl) rfl (fun _ _ _ h => h) (op_fieldAddr fld_28_1 rfl) rfl (al_load (i := 9) rfl (by kernel_rfl) (by kernel_rfl) (by kernel_rfl) rfl (fun _ _ _ h => h) (by exact op_load1 one_26 rfl (fun w hw => (hw.bcell (i := 4) rfl).trans rfl)) rfl hT ?_)))))))
    refine al_take (i := 10) rfl (by kernel_rfl) (by kernel_rfl) (by kernel_rfl) rfl (fun _ _ _ h => h) (op_fieldAddr fld_46_1 rfl) rfl (al_load (i := 11) rfl (by kernel_rfl) (by kernel_rfl) (by kernel_rfl) rfl (fun _ _ _ h => h) (by exact op_load1 one_3 rfl (fun w hw => (hw.bcell (i := 0) rfl).trans rfl)) rfl hT (al_take (i := 12) rfl (by kernel_rfl) (by kernel_rfl) (by kernel_rfl) rfl (fun _ _ _ h => h) (op_sliceP (c := ct) (h := t) sl_26 rfl rfl (by omega)) rfl (al_take (i := 16) rfl (by kernel_rfl) (by kernel_rfl) (by kernel_rfl) rfl (fun _ _ _ h => h) (op_move rfl) rfl (al_take (i := 17) rfl (by kernel_rfl) (by kernel_rfl) (by kernel_rfl) rfl (fun _ _ _ h => h) (op_fieldAddr fld_46_2 rfl) rfl (al_load (i := 18) rfl (by kernel_rfl) (by kernel_rfl) (by kernel_rfl) rfl (fun _ _ _ h => h) (by exact op_load1 one_26 rfl (fun w hw => (hw.bcell (i := 0) rfl).trans rfl)) rfl hT ?_)))))
    refine al_step (i := 5) rfl (by kernel_rfl) rfl (op_call_fr hS cf_42 rfl (R09_some_c _ _ hS.hold _ (to.take a) (hRV1.pre hal) (by simp; omega))) ?_
    clear hS
    rintro v81 w ⟨F81, G81, hR81, hF81, hf81, hl81, hS⟩
    obtain ⟨o81, c81, rfl, _, _⟩ := hR81.elim
    have hg1 := hl81
    have hT := hT.back hS (by first | exact Le.refl _ | assumption) (fun x hx => by try simp only [bkA, bkB, bkC, bkD, bkE] at hx; (rcases hx with rfl | rfl | rfl | rfl | rfl) <;> simp)
    refine ⟨fun _ _ => hT, ?_⟩
    refine al_take (i := 6) rfl (by kernel_rfl) (by kernel_rfl) (by kernel_rfl) rfl (fun _ _ _ h => h) (op_len sl_26 rfl rfl) rfl ?_
    refine al_step (i := 13) rfl (by kernel_rfl) rfl (op_call_fr hS cf_43 rfl (R09_To_c _ _ hS.hold _ _ to (tr.take t) (hRV1.mono EInt.mono hg1) ((hRt1.mono EInt.mono hg1).pre htl) (by simp; omega))) ?_
    clear hS
    rintro v89 w ⟨F89, G89, hR89, hF89, hf89, hl89, hS⟩
    obtain ⟨o89, c89, rfl, _, _⟩ := hR89.elim
    have hg2 := hg1.trans hl89
    have htl2 := toI_len to (tr.take t)
    simp only [List.length_take] at htl2
    have hT := hT.back hS (by first | exact Le.refl _ | assumption) (fun x hx => by try simp only [bkA, bkB, bkC, bkD, bkE] at hx; (rcases hx with rfl | rfl | rfl | rfl | rfl) <;> simp)
    refine ⟨fun _ _ => hT, ?_⟩
    refine al_step (i := 14) rfl (by kernel_rfl) rfl (op_call_fr hS cf_42 rfl (R09_some_c _ _ hS.hold _ (toI to (tr.take t)) (hR89.mono EInt.mono hf89) (by omega))) ?_
    clear hS
    rintro v90 w ⟨F90, G90, hR90, hF90, hf90, hl90, hS⟩
    obtain ⟨o90, c90, rfl, _, _⟩ := hR90.elim
    have hg3 := hg2.trans hl90
    have hT := hT.back hS (by first | exact Le.refl _ | assumption) (fun x hx => by try simp only [bkA, bkB, bkC, bkD, bkE] at hx; (rcases hx with rfl | rfl | rfl | rfl | rfl) <;> simp)
    refine ⟨fun _ _ => hT, ?_⟩
    refine al_take (i := 15) rfl (by kernel_rfl) (by kernel_rfl) (by kernel_rfl) rfl (fun _ _ _ h => h) (op_len sl_26 rfl rfl) rfl ?_
    refine al_step (i := 19) rfl (by kernel_rfl) rfl (op_call_fr hS cf_43 rfl (R09_To_c _ _ hS.hold _ _ to ms[j].roots (hRV1.mono EInt.mono hg3) (hr9.mono EInt.mono hg3) (by omega))) ?_
    clear hS
    rintro v95 w ⟨F95, G95, hR95, hF95, hf95, hl95, hS⟩
    obtain ⟨o95, c95, rfl, _, _⟩ := hR95.elim
    have hg4 := hg3.trans hl95
    replace hR95 := hR95.mono EInt.mono hf95
    have hsl1 := someI_len (to.take a)
    have hsl2 := someI_len (toI to (tr.take t))
    simp only [List.length_take] at hsl1
    have hT := hT.back hS (by first | exact Le.refl _ | assumption) (fun x hx => by try simp only [bkA, bkB, bkC, bkD, bkE] at hx; (rcases hx with rfl | rfl | rfl | rfl | rfl) <;> simp)
    refine ⟨fun _ _ => hT, ?_⟩
    refine al_take (i := 20) rfl (by kernel_rfl) (by kernel_rfl) (by kernel_rfl) rfl (fun _ _ _ h => h) (op_build (is := [0, 1, 2]) (xs := [.tmp 82, .tmp 91, .tmp 95]) (v := .agg #[.int .i64 ((someI (to.take a)).length : Nat), .int .i64 ((someI (toI to (tr.take t))).length : Nat), .slice o95 (toI to ms[j].roots).length c95]) rfl rfl (fun w => by kernel_rfl)) rfl ?_
    refine al_step (i := 21) rfl (by kernel_rfl) rfl (op_buildSlice (el := 46) (is := [0]) (xs := [.tmp 96]) (sz := 3) (cs := [.int .i64 ((someI (to.take a)).length : Nat), .int .i64 ((someI (toI to (tr.take t))).length : Nat), .slice o95 (toI to ms[j].roots).length c95]) hS rfl rfl (fun w => by kernel_rfl) rfl (by decide)) ?_
    clear hS
    rintro _ w ⟨s97, rfl, hS⟩
    have hT := hT.back hS (by first | exact Le.refl _ | assumption) (fun x hx => by try simp only [bkA, bkB, bkC, bkD, bkE] at hx; (rcases hx with rfl | rfl | rfl | rfl | rfl) <;> simp)
    refine ⟨fun _ _ => hT, ?_⟩
    refine al_step (i := 22) rfl (by kernel_rfl) rfl (op_append (j := 6) hS sl_29 el_46 rfl rfl rfl rfl rfl rfl (by decide) (hS.news (j := 0) rfl) (by intro u hu; simp only [List.mem_cons, List.not_mem_nil, or_false] at hu; rcases hu with rfl | rfl | rfl <;> rfl) (by omega) (by unfold maxLen; omega)) ?_
    clear hS
    rintro _ w ⟨oq, c_oq, rfl, hS⟩; (try simp only [List.nil_append, List.cons_append, List.set] at hS); replace hS := SS.drop [] hS; (try simp only [List.nil_append, List.cons_append] at hS)
    have hsn := (hus.mono EMk.mono hg4).snoc (x := markM to tr ms[j]) (cs := [.int .i64 ((someI (to.take a)).length : Nat), .int .i64 ((someI (toI to (tr.take t))).length : Nat), .slice o95 (toI to ms[j].roots).length c95]) rfl (by rw [hmd]; exact ⟨_, rfl, hR95, by simp only; omega, by simp only; omega⟩)
    have hT := hT.back hS (by first | exact Le.refl _ | assumption) (fun x hx => by try simp only [bkA, bkB, bkC, bkD, bkE] at hx; (rcases hx with rfl | rfl | rfl | rfl | rfl) <;> simp)
    refine ⟨fun _ _ => hT, ?_⟩
    refine al_take (i := 23) rfl (by kernel_rfl) (by kernel_rfl) (by kernel_rfl) rfl (fun _ _ _ h => h) (op_assign rfl) rfl (al_done (by kernel_rfl) (pq_in_normal (pq_then (cw_region (ol_pure rfl (op_move rfl) (ol_pure rfl (op_add rfl rfl (by omega) (by omega)) (ol_pure rfl (op_assign rfl) ?_)))))))
    refine ol_nil ?_
    refine pq_loop _ _ (by exact ⟨_, j + 1, oq, c_oq, _, rfl, hcx.trans hg4, by omega, rfl, by rw [hmtk]; exact hsn, SS.drop [] hS⟩) ((Sub.cons rfl (Sub.cons rfl (Sub.cons rfl (Sub.cons rfl (Sub.cons rfl (Sub.cons rfl (Sub.cons rfl (Sub.cons rfl Sub.nil))))))))) (by omega)
   ·
    try simp only [dqT, dqF, dq1, dq2, dq3, dq4, dq5] at h69
    refine cw_exit (pq_exit (pq_exit (pq_in_exit (pq_then (cw_seq ?_)))))
    refine al_start' hS (hS.take 1) (by kernel_rfl) rfl (fun w hS hT => ?_)
    refine al_load (i := 0) rfl (by kernel_rfl) (by kernel_rfl) (by kernel_rfl) rfl (fun _ _ _ h => h) (by exact op_loadN agg_28 rfl (by rfl) (fun w hw k u hk => (hw.bcell (i := 0) rfl).trans hk)) rfl hT (al_take (i := 1) rfl (by kernel_rfl) (by kernel_rfl) (by kernel_rfl) rfl (fun _ _ _ h => h) (op_move rfl) rfl (al_take (i := 2) rfl (by kernel_rfl) (by kernel_rfl) (by kernel_rfl) rfl (fun _ _ _ h => h) (op_move rfl) rfl (al_take (i := 4) rfl (by kernel_rfl) (by kernel_rfl) (by kernel_rfl) rfl (fun _ _ _ h => h) (op_move rfl) rfl ?_)))
    refine al_step (i := 3) rfl (by kernel_rfl) rfl (op_call_fr hS cf_43 rfl (R09_To_c _ _ hS.hold _ _ to roots (hRV.mono EInt.mono hcx) (h3.mono EInt.mono (hcur.trans hcx)) (by omega))) ?_
    clear hS
    rintro v102 w ⟨F102, G102, hR102, hF102, hf102, hl102, hS⟩
    obtain ⟨oZ, cZ, rfl, _, _⟩ := hR102.elim
    replace hR102 := hR102.mono EInt.mono hf102
    have hT := hT.back hS (by first | exact Le.refl _ | assumption) (fun x hx => by try simp only [bkA, bkB, bkC, bkD, bkE] at hx; (rcases hx with rfl) <;> simp)
    refine ⟨fun _ _ => hT, ?_⟩
    refine al_step0 (i := 5) rfl (by kernel_rfl) (op_storeN (j := 2) hS sz_28 rfl rfl rfl rfl rfl (by simp [Value.oneCell'])) ?_
    clear hS
    rintro _ w hS; (try simp only [List.nil_append, List.cons_append, List.set] at hS)
    refine ⟨no_need (by kernel_rfl), ?_⟩
    refine al_take (i := 6) rfl (by kernel_rfl) (by kernel_rfl) (by kernel_rfl) rfl (fun _ _ _ h => h) (op_assign rfl) rfl (al_take (i := 7) rfl (by kernel_rfl) (by kernel_rfl) (by kernel_rfl) rfl (fun _ _ _ h => h) (op_assign rfl) rfl (al_done (by kernel_rfl) (pq_then (cw_ret ?_))))
    refine retN3 rfl agg_28 rfl rfl rfl (by rfl) (fun k u hk => (hS.bcell (i := 2) rfl).trans hk) ?_
    obtain rfl : j = ms.length := by omega
    rw [List.take_length] at hus
    have hbM : ∀ c ∈ cellsM to cs, CellBd c := fun c hc => by
      obtain ⟨d, h5, rfl⟩ := cellsC_mem hc
      exact slotM_bd (h1.cellBd d h5) htb
    obtain ⟨Ga, hla, hSa, hRC⟩ := SS.give' (cellsM to cs) [_] ECell.mono hS (by decide) (Rows.cells hbM) hlC
    obtain ⟨Gb, hlb, hSb, hRM⟩ := SS.give' (ms.map (markM to tr)) [_, _, _] EMk.mono hSa (by decide) (hus.mono EMk.mono (hl102.trans hla)) (by simp)
    have hlx := hcx.trans (hl102.trans (hla.trans hlb))
    have hlC2 : lC = (cellsM to cs).length := hlC
    subst hlC2
    exact hSb.rt _ ⟨_, _, _, rfl, ⟨_, _, _, _, rfl, hRC.mono ECell.mono hlb, hRT.mono EInt.mono hlx⟩, hR102.mono EInt.mono (hla.trans hlb), hRM⟩
end Go.Proofs.Ytnmkffkalnkbbaa.K
