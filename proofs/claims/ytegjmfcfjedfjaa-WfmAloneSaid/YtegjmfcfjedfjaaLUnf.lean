/-
  The walk of WfmUnfounded.
  No condition but the premises that each theorem names.
-/
import Derived.Test.YtegjmfcfjedfjaaLBase
import Derived.Test.YtegjmfcfjedfjaaPlu
namespace Go.Proofs.Ytegjmfcfjedfjaa.K
open Go Go.RowKit
set_option linter.unusedVariables false
set_option linter.unusedSimpArgs false

open Pl
theorem op_minN {P : Program} {N : Nat} {e : Env} {d : Option Tmp} {ty : TypeId} {pos : String} {after : Array Edge} {g : Option (Nat × Bool)} {x y : Operand} {ts : Array TypeId} {m n : Nat} (hx : ev e x = some (.int .i64 m)) (hy : ev e y = some (.int .i64 n)) : OpP P N e ⟨d, .call ⟨.builtin .min, #[x, y], ts⟩, ty, pos, after, g⟩ (.int .i64 ((min m n : Nat) : Int)) := by
  have h := op_min (P := P) (N := N) (d := d) (ty := ty) (pos := pos) (after := after) (g := g) (ts := ts) hx hy
  have he : (if (n : Int) < (m : Int) then (n : Int) else (m : Int)) = ((min m n : Nat) : Int) := by split <;> omega
  rwa [he] at h
theorem op_val {P : Program} {N : Nat} {e : Env} {o : Oper} {v v' : Value} (h : OpP P N e o v) (hv : v = v') : OpP P N e o v' := hv ▸ h

set_option maxRecDepth 100000 in
set_option maxHeartbeats 1000000 in

theorem L17_unfounded_c (G : GH) (w0 : World) (hG : Holds G w0) {α : Type} {E : ER α} (va vr : Value) (atoms : List α) (rs : List Rule) (h1 : RSl 1 E G va atoms) (h2 : RSl 3 ERule G vr rs) (hP : PrOk atoms.length rs) (vm vx : Value) (m : List Int) (x : List Bool) (h3 : RSl 1 EInt G vm m) (h4 : RSl 1 EBool G vx x) :
    Calls Try.prog 25 #[.agg #[va, vr], vm, vx] w0 (Sc w0 (.bool (unfoundB atoms.length rs m x))) := by
  obtain ⟨oA, cA, rfl, hlA, hmA⟩ := h1.elim
  obtain ⟨oR, cR, rfl, hlR, hmR⟩ := h2.elim
  have hPn := hP.n_le
  have hPm := hP.m_le
  obtain ⟨oM, cM, rfl, hlM, hmM⟩ := h3.elim
  obtain ⟨oX, cX, rfl, hlX, hmX⟩ := h4.elim
  refine enter Try.func25 rfl (N := 55) rfl (Nat.le_of_ble_eq_true rfl) ?_
  have hS := SS.init hG
  refine cw_seq ?_
  refine cw_region ?_
  -- r0.0 t3 := box [25] t0
  refine ol_step rfl (op_box hS rfl rfl) ?_
  clear hS
  rintro _ w ⟨b3, rfl, hS⟩
  -- r0.1 t6 := assign  Cfalse
  refine ol_pure rfl (op_assign rfl) ?_
  refine ol_nil ?_
  refine pq_then ?_
  refine cw_seq ?_
  refine cw_seq ?_
  refine cw_region ?_
  -- r1.0 t7 := assign  C0
  refine ol_pure rfl (op_assign rfl) ?_
  refine ol_nil ?_
  refine pq_then ?_
  refine cw_block ?_
  refine cw_loop (fun e w n => ∃ k Gk, e = [(1, .slice oM m.length cM), (2, .slice oX x.length cX), (3, .pointer (some ⟨b3, 0, none⟩)), (7, .int .i64 (k : Nat))] ∧ k ≤ rs.length ∧ n = rs.length - k ∧ (rs.take k).all (fun r : Rule => !(allB x [r.head] && !anyB x r.pos && !anyB (setB m atoms.length 0) r.pos && !anyB (setB m atoms.length 2) r.neg)) = true ∧ Le G Gk ∧ SS G w0 Gk [.blk b3 25 [.slice oA atoms.length cA, .slice oR rs.length cR]] w) _ _ (by exact ⟨0, G, rfl, Nat.zero_le _, rfl, rfl, Le.refl G, hS⟩) ((Sub.cons rfl (Sub.cons rfl (Sub.cons rfl (Sub.cons rfl Sub.nil))))) ?_
  clear hS
  rintro e w n ⟨k, Gk, rfl, hk, rfl, hpa, hlk, hS⟩
  refine cw_seq ?_
  refine cw_seq ?_
  refine cw_region ?_
  -- r2.0 t9 := move  t7
  refine ol_pure rfl (op_move rfl) ?_
  -- r2.1 t10 := fieldAddr [25, 1] t3
  refine ol_pure rfl (op_fieldAddr fld_25_1 rfl) ?_
  -- r2.2 t11 := load [23] t10
  refine ol_load rfl (op_load1 one_23 rfl (fun w hw => (hw.bcell (i := 0) rfl).trans rfl)) hS ?_
  -- r2.3 t12 := call len t11
  refine ol_pure rfl (op_len sl_23 rfl rfl) ?_
  -- r2.4 t13 := lss t9 t12
  refine ol_pure rfl (op_lss rfl rfl) ?_
  refine ol_nil ?_
  refine pq_then ?_
  refine cw_cond rfl (fun h13 => ?_) (fun h13 => ?_)
  · skip
    try simp only [decide_eq_true_eq, decide_eq_false_iff_not, Bool.not_eq_true', Bool.not_eq_false', Bool.not_eq_eq_eq_not, Bool.not_true, Bool.not_false] at h13
    have hlt : k < rs.length := by omega
    have hrk := (hP.rule _ (List.getElem_mem hlt)).1
    obtain ⟨hoa, cs, hcl, ⟨p, q, rfl, hp, hq, hhd⟩, hcells⟩ := h2.el hlt
    obtain ⟨op, cp, hpe, hlp, hmp⟩ := hp.elim
    obtain ⟨oq, cq, hqe, hlq, hmq⟩ := hq.elim
    subst hpe
    subst hqe
    have hp0 : ∀ x ∈ rs[k].pos, 0 ≤ x := fun x hx => (hrk.2.1 x hx).1
    have hq0 : ∀ x ∈ rs[k].neg, 0 ≤ x := fun x hx => (hrk.2.2 x hx).1
    have h3k := h3.mono EInt.mono hlk
    have h4k := h4.mono EBool.mono hlk
    have hpk := hp.mono EInt.mono hlk
    have hqk := hq.mono EInt.mono hlk
    refine cw_skip ?_
    refine pq_then ?_
    refine cw_seq ?_
    refine cw_block ?_
    refine cw_seq ?_
    refine cw_region ?_
    -- r4.0 t16 := fieldAddr [25, 1] t3
    refine ol_pure rfl (op_fieldAddr fld_25_1 rfl) ?_
    -- r4.1 t17 := load [23] t16
    refine ol_load rfl (op_load1 one_23 rfl (fun w hw => (hw.bcell (i := 0) rfl).trans rfl)) hS ?_
    -- r4.2 t18 := move  t7
    refine ol_pure rfl (op_move rfl) ?_
    -- r4.3 t19 := indexAddr [23] t17 t18
    refine ol_pure rfl (op_indexN sl_23 rfl rfl (by omega) (by assumption)) ?_
    -- r4.4 t20 := load [42] t19
    refine ol_load rfl (op_loadN agg_42 rfl (by rfl) (fun w hw k u hk => hw.gcell0 (hcells k u hk))) hS ?_
    -- r4.5 t8 := alloc [42] 
    refine ol_step rfl (op_alloc hS el_42 rfl) ?_
    clear hS
    rintro _ w ⟨b8, rfl, hS⟩
    -- r4.6 _ := store [42] t8 t20
    refine ol_step0  (op_storeN (j := 0) hS sz_42 rfl rfl rfl rfl rfl (by simp [Value.oneCell'])) ?_
    clear hS
    rintro _ w hS; (try simp only [List.nil_append, List.cons_append, List.set] at hS)
    refine ol_nil ?_
    refine pq_then ?_
    refine cw_seq ?_
    refine al_start' hS (hS.take 2) (by kernel_rfl) rfl (fun w hS hT => ?_)
    -- r5.0 t21 := move  t2
    refine al_take (i := 0) rfl (by kernel_rfl) (by kernel_rfl) (by kernel_rfl) rfl (fun _ _ _ h => h) (op_move rfl) rfl ?_
    -- r5.1 t22 := fieldAddr [42, 0] t8
    refine al_take (i := 1) rfl (by kernel_rfl) (by kernel_rfl) (by kernel_rfl) rfl (fun _ _ _ h => h) (op_fieldAddr fld_42_0 rfl) rfl ?_
    -- r5.2 t23 := load [3] t22
    refine al_load (i := 2) rfl (by kernel_rfl) (by kernel_rfl) (by kernel_rfl) rfl (fun _ _ _ h => h) (by exact op_load1 one_3 rfl (fun w hw => (hw.bcell (i := 0) rfl).trans rfl)) rfl hT ?_
    refine al_step (i := 3) rfl (by kernel_rfl) rfl (op_buildSlice (el := 3) (is := [0]) (xs := [.tmp 23]) (sz := 1) (cs := [.int .i64 rs[k].head]) hS rfl rfl (fun w => by kernel_rfl) rfl (by decide)) ?_
    clear hS
    rintro _ w ⟨s24, rfl, hS⟩
    have hT := hT.back hS (by first | exact Le.refl _ | assumption) (fun x hx => by try simp only [List.take_succ_cons, List.take_zero, List.mem_cons, List.not_mem_nil, or_false] at hx; (rcases hx with rfl | rfl) <;> simp)
    refine ⟨fun _ _ => hT, ?_⟩
    have hlend := SS.lend [] hS (by decide) EInt.mono (Rows.of_map (xs := [rs[k].head]) (f := Value.int .i64) (E := EInt) (fun y hy => ⟨rfl, by simp at hy; subst hy; exact hhd⟩)) rfl
    refine al_step (i := 4) rfl (by kernel_rfl) rfl (op_call_sc hS cf_35 rfl (R17_All_c (fullG _) _ (Holds.full _) _ _ x [rs[k].head] (h4k.mono EBool.mono hS.hold.le_full) hlend (fun y hy => by simp at hy; subst hy; exact hrk.1.1))) ?_
    clear hS
    rintro _ w ⟨rfl, hS⟩
    have hT := hT.back hS (by first | exact Le.refl _ | assumption) (fun x hx => by try simp only [List.take_succ_cons, List.take_zero, List.mem_cons, List.not_mem_nil, or_false] at hx; (rcases hx with rfl | rfl) <;> simp)
    refine ⟨fun _ _ => hT, ?_⟩
    -- r5.5 t26 := move  t25
    refine al_take (i := 5) rfl (by kernel_rfl) (by kernel_rfl) (by kernel_rfl) rfl (fun _ _ _ h => h) (op_move rfl) rfl ?_
    refine al_split (fun h26 => ?_) (fun h26 => ?_)
    · skip
      try simp only [decide_eq_true_eq, decide_eq_false_iff_not, Bool.not_eq_true', Bool.not_eq_false', Bool.not_eq_eq_eq_not, Bool.not_true, Bool.not_false] at h26
      -- r5.6 t27 := move  t2 ?5=True
      refine al_gtake (i := 6) rfl (by kernel_rfl) (by kernel_rfl) (by kernel_rfl) rfl rfl rfl (fun _ _ _ h => h) (op_move rfl) rfl ?_
      -- r5.7 t28 := fieldAddr [42, 1] t8 ?5=True
      refine al_gtake (i := 7) rfl (by kernel_rfl) (by kernel_rfl) (by kernel_rfl) rfl rfl rfl (fun _ _ _ h => h) (op_fieldAddr fld_42_1 rfl) rfl ?_
      -- r5.8 t29 := load [27] t28 ?5=True
      refine al_gload (i := 8) rfl (by kernel_rfl) (by kernel_rfl) (by kernel_rfl) rfl rfl rfl (fun _ _ _ h => h) (by exact op_load1 one_27 rfl (fun w hw => (hw.bcell (i := 0) rfl).trans rfl)) rfl hT ?_
      refine al_gstep (i := 9) rfl (by kernel_rfl) rfl rfl rfl (op_call_sc hS cf_29 rfl (R17_Any_c _ _ hS.hold _ _ x rs[k].pos h4k hpk hp0)) ?_
      clear hS
      rintro _ w ⟨rfl, hS⟩
      have hT := hT.back hS (by first | exact Le.refl _ | assumption) (fun x hx => by try simp only [List.take_succ_cons, List.take_zero, List.mem_cons, List.not_mem_nil, or_false] at hx; (rcases hx with rfl | rfl) <;> simp)
      refine ⟨fun _ _ => hT, ?_⟩
      -- r5.10 t31 := not t30 ?5=True
      refine al_gtake (i := 10) rfl (by kernel_rfl) (by kernel_rfl) (by kernel_rfl) rfl rfl rfl (fun _ _ _ h => h) (op_not rfl) rfl ?_
      -- r5.11 t32 := pick  t26 t31 Cfalse
      refine al_take (i := 11) rfl (by kernel_rfl) (by kernel_rfl) (by kernel_rfl) rfl (fun _ _ _ h => h) (op_pick_t rfl rfl) rfl ?_
      -- r5.12 t33 := move  t32
      refine al_take (i := 12) rfl (by kernel_rfl) (by kernel_rfl) (by kernel_rfl) rfl (fun _ _ _ h => h) (op_move rfl) rfl ?_
      refine al_split (fun h33 => ?_) (fun h33 => ?_)
      · skip
        try simp only [decide_eq_true_eq, decide_eq_false_iff_not, Bool.not_eq_true', Bool.not_eq_false', Bool.not_eq_eq_eq_not, Bool.not_true, Bool.not_false] at h33
        -- r5.13 t34 := move  t1 ?12=True
        refine al_gtake (i := 13) rfl (by kernel_rfl) (by kernel_rfl) (by kernel_rfl) rfl rfl rfl (fun _ _ _ h => h) (op_move rfl) rfl ?_
        -- r5.14 t35 := fieldAddr [25, 0] t3 ?12=True
        refine al_gtake (i := 14) rfl (by kernel_rfl) (by kernel_rfl) (by kernel_rfl) rfl rfl rfl (fun _ _ _ h => h) (op_fieldAddr fld_25_0 rfl) rfl ?_
        -- r5.15 t36 := load [22] t35 ?12=True
        refine al_gload (i := 15) rfl (by kernel_rfl) (by kernel_rfl) (by kernel_rfl) rfl rfl rfl (fun _ _ _ h => h) (by exact op_load1 one_22 rfl (fun w hw => (hw.bcell (i := 1) rfl).trans rfl)) rfl hT ?_
        -- r5.16 t37 := call len t36 ?12=True
        refine al_gtake (i := 16) rfl (by kernel_rfl) (by kernel_rfl) (by kernel_rfl) rfl rfl rfl (fun _ _ _ h => h) (op_len sl_22 rfl rfl) rfl ?_
        -- r5.18 t39 := fieldAddr [42, 1] t8 ?12=True
        refine al_gtake (i := 18) rfl (by kernel_rfl) (by kernel_rfl) (by kernel_rfl) rfl rfl rfl (fun _ _ _ h => h) (op_fieldAddr fld_42_1 rfl) rfl ?_
        -- r5.19 t40 := load [27] t39 ?12=True
        refine al_gload (i := 19) rfl (by kernel_rfl) (by kernel_rfl) (by kernel_rfl) rfl rfl rfl (fun _ _ _ h => h) (by exact op_load1 one_27 rfl (fun w hw => (hw.bcell (i := 0) rfl).trans rfl)) rfl hT ?_
        refine al_gstep (i := 17) rfl (by kernel_rfl) rfl rfl rfl (op_call_fr hS cf_39 rfl (R17_Set_c _ _ hS.hold _ m atoms.length 0 (h3k) (by omega))) ?_
        clear hS
        rintro v38 w ⟨F38, G38, hR38, hF38, hf38, hl38, hS⟩
        obtain ⟨o38, c38, rfl, _, _⟩ := hR38.elimN (setB_length _ _ _)
        replace hR38 := hR38.mono EBool.mono hf38
        have hq38 := hl38
        have hT := hT.back hS (by first | exact Le.refl _ | assumption) (fun x hx => by try simp only [List.take_succ_cons, List.take_zero, List.mem_cons, List.not_mem_nil, or_false] at hx; (rcases hx with rfl | rfl) <;> simp)
        refine ⟨fun _ _ => hT, ?_⟩
        refine al_gstep (i := 20) rfl (by kernel_rfl) rfl rfl rfl (op_call_sc hS cf_29 rfl (R17_Any_c _ _ hS.hold _ _ _ rs[k].pos hR38 (hpk.mono EInt.mono hq38) hp0)) ?_
        clear hS
        rintro _ w ⟨rfl, hS⟩
        have hT := hT.back hS (by first | exact Le.refl _ | assumption) (fun x hx => by try simp only [List.take_succ_cons, List.take_zero, List.mem_cons, List.not_mem_nil, or_false] at hx; (rcases hx with rfl | rfl) <;> simp)
        refine ⟨fun _ _ => hT, ?_⟩
        -- r5.21 t42 := not t41 ?12=True
        refine al_gtake (i := 21) rfl (by kernel_rfl) (by kernel_rfl) (by kernel_rfl) rfl rfl rfl (fun _ _ _ h => h) (op_not rfl) rfl ?_
        -- r5.22 t43 := pick  t33 t42 Cfalse
        refine al_take (i := 22) rfl (by kernel_rfl) (by kernel_rfl) (by kernel_rfl) rfl (fun _ _ _ h => h) (op_pick_t rfl rfl) rfl ?_
        -- r5.23 t44 := move  t43
        refine al_take (i := 23) rfl (by kernel_rfl) (by kernel_rfl) (by kernel_rfl) rfl (fun _ _ _ h => h) (op_move rfl) rfl ?_
        refine al_split (fun h44 => ?_) (fun h44 => ?_)
        · skip
          try simp only [decide_eq_true_eq, decide_eq_false_iff_not, Bool.not_eq_true', Bool.not_eq_false', Bool.not_eq_eq_eq_not, Bool.not_true, Bool.not_false] at h44
          -- r5.24 t45 := move  t1 ?23=True
          refine al_gtake (i := 24) rfl (by kernel_rfl) (by kernel_rfl) (by kernel_rfl) rfl rfl rfl (fun _ _ _ h => h) (op_move rfl) rfl ?_
          -- r5.25 t46 := fieldAddr [25, 0] t3 ?23=True
          refine al_gtake (i := 25) rfl (by kernel_rfl) (by kernel_rfl) (by kernel_rfl) rfl rfl rfl (fun _ _ _ h => h) (op_fieldAddr fld_25_0 rfl) rfl ?_
          -- r5.26 t47 := load [22] t46 ?23=True
          refine al_gload (i := 26) rfl (by kernel_rfl) (by kernel_rfl) (by kernel_rfl) rfl rfl rfl (fun _ _ _ h => h) (by exact op_load1 one_22 rfl (fun w hw => (hw.bcell (i := 1) rfl).trans rfl)) rfl hT ?_
          -- r5.27 t48 := call len t47 ?23=True
          refine al_gtake (i := 27) rfl (by kernel_rfl) (by kernel_rfl) (by kernel_rfl) rfl rfl rfl (fun _ _ _ h => h) (op_len sl_22 rfl rfl) rfl ?_
          -- r5.29 t50 := fieldAddr [42, 2] t8 ?23=True
          refine al_gtake (i := 29) rfl (by kernel_rfl) (by kernel_rfl) (by kernel_rfl) rfl rfl rfl (fun _ _ _ h => h) (op_fieldAddr fld_42_2 rfl) rfl ?_
          -- r5.30 t51 := load [27] t50 ?23=True
          refine al_gload (i := 30) rfl (by kernel_rfl) (by kernel_rfl) (by kernel_rfl) rfl rfl rfl (fun _ _ _ h => h) (by exact op_load1 one_27 rfl (fun w hw => (hw.bcell (i := 0) rfl).trans rfl)) rfl hT ?_
          refine al_gstep (i := 28) rfl (by kernel_rfl) rfl rfl rfl (op_call_fr hS cf_39 rfl (R17_Set_c _ _ hS.hold _ m atoms.length 2 (h3k.mono EInt.mono hq38) (by omega))) ?_
          clear hS
          rintro v49 w ⟨F49, G49, hR49, hF49, hf49, hl49, hS⟩
          obtain ⟨o49, c49, rfl, _, _⟩ := hR49.elimN (setB_length _ _ _)
          replace hR49 := hR49.mono EBool.mono hf49
          have hq49 := hq38.trans hl49
          have hT := hT.back hS (by first | exact Le.refl _ | assumption) (fun x hx => by try simp only [List.take_succ_cons, List.take_zero, List.mem_cons, List.not_mem_nil, or_false] at hx; (rcases hx with rfl | rfl) <;> simp)
          refine ⟨fun _ _ => hT, ?_⟩
          refine al_gstep (i := 31) rfl (by kernel_rfl) rfl rfl rfl (op_call_sc hS cf_29 rfl (R17_Any_c _ _ hS.hold _ _ _ rs[k].neg hR49 (hqk.mono EInt.mono hq49) hq0)) ?_
          clear hS
          rintro _ w ⟨rfl, hS⟩
          have hT := hT.back hS (by first | exact Le.refl _ | assumption) (fun x hx => by try simp only [List.take_succ_cons, List.take_zero, List.mem_cons, List.not_mem_nil, or_false] at hx; (rcases hx with rfl | rfl) <;> simp)
          refine ⟨fun _ _ => hT, ?_⟩
          -- r5.32 t53 := not t52 ?23=True
          refine al_gtake (i := 32) rfl (by kernel_rfl) (by kernel_rfl) (by kernel_rfl) rfl rfl rfl (fun _ _ _ h => h) (op_not rfl) rfl ?_
          -- r5.33 t54 := pick  t44 t53 Cfalse
          refine al_take (i := 33) rfl (by kernel_rfl) (by kernel_rfl) (by kernel_rfl) rfl (fun _ _ _ h => h) (op_pick_t rfl rfl) rfl ?_
          refine al_done (by kernel_rfl) ?_
          refine pq_then ?_
          refine cw_cond rfl (fun h54 => ?_) (fun h54 => ?_)
          · skip
            try simp only [decide_eq_true_eq, decide_eq_false_iff_not, Bool.not_eq_true', Bool.not_eq_false', Bool.not_eq_eq_eq_not, Bool.not_true, Bool.not_false] at h54
            refine cw_seq ?_
            refine cw_region ?_
            -- r6.0 t6 := assign  Cfalse
            refine ol_pure rfl (op_assign rfl) ?_
            refine ol_nil ?_
            refine pq_then ?_
            refine cw_ret ?_
            refine pq_in_ret ?_
            refine pq_ret ?_
            refine pq_ret ?_
            refine pq_in_ret ?_
            refine pq_ret ?_
            refine ret1 rfl rfl ?_
            -- ret1 h13t h26t h33t h44t h54t
            exact hS.sc_b (by rw [unfoundB, Pl.all_false_at (fun r : Rule => !(allB x [r.head] && !anyB x r.pos && !anyB (setB m atoms.length 0) r.pos && !anyB (setB m atoms.length 2) r.neg)) _ _ hlt (by rw [h26, h33, h44, h54]; rfl)])
          · skip
            try simp only [decide_eq_true_eq, decide_eq_false_iff_not, Bool.not_eq_true', Bool.not_eq_false', Bool.not_eq_eq_eq_not, Bool.not_true, Bool.not_false] at h54
            refine cw_skip ?_
            refine pq_in_normal ?_
            refine pq_then ?_
            refine cw_region ?_
            -- r3.0 t14 := move  t7
            refine ol_pure rfl (op_move rfl) ?_
            -- r3.1 t15 := add t14 C1
            refine ol_pure rfl (op_add rfl rfl (by omega) (by omega)) ?_
            -- r3.2 t7 := assign  t15
            refine ol_pure rfl (op_assign rfl) ?_
            refine ol_nil ?_
            -- end of round 1 h13t h26t h33t h44t h54f
            refine pq_loop _ _ (by exact (by replace hS := SS.drop [] (SS.drop [] hS); exact ⟨k + 1, G49, rfl, by omega, rfl, by rw [Pl.all_take_succ (fun r : Rule => !(allB x [r.head] && !anyB x r.pos && !anyB (setB m atoms.length 0) r.pos && !anyB (setB m atoms.length 2) r.neg)) _ _ hlt, hpa, show anyB (setB m atoms.length 2) rs[k].neg = true by simpa using h54]; simp, hlk.trans hq49, hS⟩)) ((Sub.cons rfl (Sub.cons rfl (Sub.cons rfl (Sub.cons rfl Sub.nil))))) (by omega)
        · skip
          try simp only [decide_eq_true_eq, decide_eq_false_iff_not, Bool.not_eq_true', Bool.not_eq_false', Bool.not_eq_eq_eq_not, Bool.not_true, Bool.not_false] at h44
          refine al_gskip (i := 24) rfl (by kernel_rfl) (by kernel_rfl) (by kernel_rfl) rfl rfl rfl rfl (fun _ _ _ h => h) (fun _ => hT) ?_
          refine al_gskip (i := 25) rfl (by kernel_rfl) (by kernel_rfl) (by kernel_rfl) rfl rfl rfl rfl (fun _ _ _ h => h) (fun _ => hT) ?_
          refine al_gskip (i := 26) rfl (by kernel_rfl) (by kernel_rfl) (by kernel_rfl) rfl rfl rfl rfl (fun _ _ _ h => h) (fun _ => hT) ?_
          refine al_gskip (i := 27) rfl (by kernel_rfl) (by kernel_rfl) (by kernel_rfl) rfl rfl rfl rfl (fun _ _ _ h => h) (fun _ => hT) ?_
          refine al_gskip (i := 28) rfl (by kernel_rfl) (by kernel_rfl) (by kernel_rfl) rfl rfl rfl rfl (fun _ _ _ h => h) (fun _ => hT) ?_
          refine al_gskip (i := 29) rfl (by kernel_rfl) (by kernel_rfl) (by kernel_rfl) rfl rfl rfl rfl (fun _ _ _ h => h) (fun _ => hT) ?_
          refine al_gskip (i := 30) rfl (by kernel_rfl) (by kernel_rfl) (by kernel_rfl) rfl rfl rfl rfl (fun _ _ _ h => h) (fun _ => hT) ?_
          refine al_gskip (i := 31) rfl (by kernel_rfl) (by kernel_rfl) (by kernel_rfl) rfl rfl rfl rfl (fun _ _ _ h => h) (fun _ => hT) ?_
          refine al_gskip (i := 32) rfl (by kernel_rfl) (by kernel_rfl) (by kernel_rfl) rfl rfl rfl rfl (fun _ _ _ h => h) (fun _ => hT) ?_
          -- r5.33 t54 := pick  t44 t53 Cfalse
          refine al_take (i := 33) rfl (by kernel_rfl) (by kernel_rfl) (by kernel_rfl) rfl (fun _ _ _ h => h) (op_pick_f rfl rfl) rfl ?_
          refine al_done (by kernel_rfl) ?_
          refine pq_then ?_
          refine cw_cond_f rfl ?_
          refine cw_skip ?_
          refine pq_in_normal ?_
          refine pq_then ?_
          refine cw_region ?_
          -- r3.0 t14 := move  t7
          refine ol_pure rfl (op_move rfl) ?_
          -- r3.1 t15 := add t14 C1
          refine ol_pure rfl (op_add rfl rfl (by omega) (by omega)) ?_
          -- r3.2 t7 := assign  t15
          refine ol_pure rfl (op_assign rfl) ?_
          refine ol_nil ?_
          -- end of round 1 h13t h26t h33t h44f
          refine pq_loop _ _ (by exact (by replace hS := SS.drop [] (SS.drop [] hS); exact ⟨k + 1, G38, rfl, by omega, rfl, by rw [Pl.all_take_succ (fun r : Rule => !(allB x [r.head] && !anyB x r.pos && !anyB (setB m atoms.length 0) r.pos && !anyB (setB m atoms.length 2) r.neg)) _ _ hlt, hpa, show anyB (setB m atoms.length 0) rs[k].pos = true by simpa using h44]; simp, hlk.trans hq38, hS⟩)) ((Sub.cons rfl (Sub.cons rfl (Sub.cons rfl (Sub.cons rfl Sub.nil))))) (by omega)
      · skip
        try simp only [decide_eq_true_eq, decide_eq_false_iff_not, Bool.not_eq_true', Bool.not_eq_false', Bool.not_eq_eq_eq_not, Bool.not_true, Bool.not_false] at h33
        refine al_gskip (i := 13) rfl (by kernel_rfl) (by kernel_rfl) (by kernel_rfl) rfl rfl rfl rfl (fun _ _ _ h => h) (fun _ => hT) ?_
        refine al_gskip (i := 14) rfl (by kernel_rfl) (by kernel_rfl) (by kernel_rfl) rfl rfl rfl rfl (fun _ _ _ h => h) (fun _ => hT) ?_
        refine al_gskip (i := 15) rfl (by kernel_rfl) (by kernel_rfl) (by kernel_rfl) rfl rfl rfl rfl (fun _ _ _ h => h) (fun _ => hT) ?_
        refine al_gskip (i := 16) rfl (by kernel_rfl) (by kernel_rfl) (by kernel_rfl) rfl rfl rfl rfl (fun _ _ _ h => h) (fun _ => hT) ?_
        refine al_gskip (i := 17) rfl (by kernel_rfl) (by kernel_rfl) (by kernel_rfl) rfl rfl rfl rfl (fun _ _ _ h => h) (fun _ => hT) ?_
        refine al_gskip (i := 18) rfl (by kernel_rfl) (by kernel_rfl) (by kernel_rfl) rfl rfl rfl rfl (fun _ _ _ h => h) (fun _ => hT) ?_
        refine al_gskip (i := 19) rfl (by kernel_rfl) (by kernel_rfl) (by kernel_rfl) rfl rfl rfl rfl (fun _ _ _ h => h) (fun _ => hT) ?_
        refine al_gskip (i := 20) rfl (by kernel_rfl) (by kernel_rfl) (by kernel_rfl) rfl rfl rfl rfl (fun _ _ _ h => h) (fun _ => hT) ?_
        refine al_gskip (i := 21) rfl (by kernel_rfl) (by kernel_rfl) (by kernel_rfl) rfl rfl rfl rfl (fun _ _ _ h => h) (fun _ => hT) ?_
        -- r5.22 t43 := pick  t33 t42 Cfalse
        refine al_take (i := 22) rfl (by kernel_rfl) (by kernel_rfl) (by kernel_rfl) rfl (fun _ _ _ h => h) (op_pick_f rfl rfl) rfl ?_
        -- r5.23 t44 := move  t43
        refine al_take (i := 23) rfl (by kernel_rfl) (by kernel_rfl) (by kernel_rfl) rfl (fun _ _ _ h => h) (op_move rfl) rfl ?_
        refine al_gskip (i := 24) rfl (by kernel_rfl) (by kernel_rfl) (by kernel_rfl) rfl rfl rfl rfl (fun _ _ _ h => h) (fun _ => hT) ?_
        refine al_gskip (i := 25) rfl (by kernel_rfl) (by kernel_rfl) (by kernel_rfl) rfl rfl rfl rfl (fun _ _ _ h => h) (fun _ => hT) ?_
        refine al_gskip (i := 26) rfl (by kernel_rfl) (by kernel_rfl) (by kernel_rfl) rfl rfl rfl rfl (fun _ _ _ h => h) (fun _ => hT) ?_
        refine al_gskip (i := 27) rfl (by kernel_rfl) (by kernel_rfl) (by kernel_rfl) rfl rfl rfl rfl (fun _ _ _ h => h) (fun _ => hT) ?_
        refine al_gskip (i := 28) rfl (by kernel_rfl) (by kernel_rfl) (by kernel_rfl) rfl rfl rfl rfl (fun _ _ _ h => h) (fun _ => hT) ?_
        refine al_gskip (i := 29) rfl (by kernel_rfl) (by kernel_rfl) (by kernel_rfl) rfl rfl rfl rfl (fun _ _ _ h => h) (fun _ => hT) ?_
        refine al_gskip (i := 30) rfl (by kernel_rfl) (by kernel_rfl) (by kernel_rfl) rfl rfl rfl rfl (fun _ _ _ h => h) (fun _ => hT) ?_
        refine al_gskip (i := 31) rfl (by kernel_rfl) (by kernel_rfl) (by kernel_rfl) rfl rfl rfl rfl (fun _ _ _ h => h) (fun _ => hT) ?_
        refine al_gskip (i := 32) rfl (by kernel_rfl) (by kernel_rfl) (by kernel_rfl) rfl rfl rfl rfl (fun _ _ _ h => h) (fun _ => hT) ?_
        -- r5.33 t54 := pick  t44 t53 Cfalse
        refine al_take (i := 33) rfl (by kernel_rfl) (by kernel_rfl) (by kernel_rfl) rfl (fun _ _ _ h => h) (op_pick_f rfl rfl) rfl ?_
        refine al_done (by kernel_rfl) ?_
        refine pq_then ?_
        refine cw_cond_f rfl ?_
        refine cw_skip ?_
        refine pq_in_normal ?_
        refine pq_then ?_
        refine cw_region ?_
        -- r3.0 t14 := move  t7
        refine ol_pure rfl (op_move rfl) ?_
        -- r3.1 t15 := add t14 C1
        refine ol_pure rfl (op_add rfl rfl (by omega) (by omega)) ?_
        -- r3.2 t7 := assign  t15
        refine ol_pure rfl (op_assign rfl) ?_
        refine ol_nil ?_
        -- end of round 1 h13t h26t h33f
        refine pq_loop _ _ (by exact (by replace hS := SS.drop [] (SS.drop [] hS); exact ⟨k + 1, Gk, rfl, by omega, rfl, by rw [Pl.all_take_succ (fun r : Rule => !(allB x [r.head] && !anyB x r.pos && !anyB (setB m atoms.length 0) r.pos && !anyB (setB m atoms.length 2) r.neg)) _ _ hlt, hpa, show anyB x rs[k].pos = true by simpa using h33]; simp, hlk, hS⟩)) ((Sub.cons rfl (Sub.cons rfl (Sub.cons rfl (Sub.cons rfl Sub.nil))))) (by omega)
    · skip
      try simp only [decide_eq_true_eq, decide_eq_false_iff_not, Bool.not_eq_true', Bool.not_eq_false', Bool.not_eq_eq_eq_not, Bool.not_true, Bool.not_false] at h26
      refine al_gskip (i := 6) rfl (by kernel_rfl) (by kernel_rfl) (by kernel_rfl) rfl rfl rfl rfl (fun _ _ _ h => h) (fun _ => hT) ?_
      refine al_gskip (i := 7) rfl (by kernel_rfl) (by kernel_rfl) (by kernel_rfl) rfl rfl rfl rfl (fun _ _ _ h => h) (fun _ => hT) ?_
      refine al_gskip (i := 8) rfl (by kernel_rfl) (by kernel_rfl) (by kernel_rfl) rfl rfl rfl rfl (fun _ _ _ h => h) (fun _ => hT) ?_
      refine al_gskip (i := 9) rfl (by kernel_rfl) (by kernel_rfl) (by kernel_rfl) rfl rfl rfl rfl (fun _ _ _ h => h) (fun _ => hT) ?_
      refine al_gskip (i := 10) rfl (by kernel_rfl) (by kernel_rfl) (by kernel_rfl) rfl rfl rfl rfl (fun _ _ _ h => h) (fun _ => hT) ?_
      -- r5.11 t32 := pick  t26 t31 Cfalse
      refine al_take (i := 11) rfl (by kernel_rfl) (by kernel_rfl) (by kernel_rfl) rfl (fun _ _ _ h => h) (op_pick_f rfl rfl) rfl ?_
      -- r5.12 t33 := move  t32
      refine al_take (i := 12) rfl (by kernel_rfl) (by kernel_rfl) (by kernel_rfl) rfl (fun _ _ _ h => h) (op_move rfl) rfl ?_
      refine al_gskip (i := 13) rfl (by kernel_rfl) (by kernel_rfl) (by kernel_rfl) rfl rfl rfl rfl (fun _ _ _ h => h) (fun _ => hT) ?_
      refine al_gskip (i := 14) rfl (by kernel_rfl) (by kernel_rfl) (by kernel_rfl) rfl rfl rfl rfl (fun _ _ _ h => h) (fun _ => hT) ?_
      refine al_gskip (i := 15) rfl (by kernel_rfl) (by kernel_rfl) (by kernel_rfl) rfl rfl rfl rfl (fun _ _ _ h => h) (fun _ => hT) ?_
      refine al_gskip (i := 16) rfl (by kernel_rfl) (by kernel_rfl) (by kernel_rfl) rfl rfl rfl rfl (fun _ _ _ h => h) (fun _ => hT) ?_
      refine al_gskip (i := 17) rfl (by kernel_rfl) (by kernel_rfl) (by kernel_rfl) rfl rfl rfl rfl (fun _ _ _ h => h) (fun _ => hT) ?_
      refine al_gskip (i := 18) rfl (by kernel_rfl) (by kernel_rfl) (by kernel_rfl) rfl rfl rfl rfl (fun _ _ _ h => h) (fun _ => hT) ?_
      refine al_gskip (i := 19) rfl (by kernel_rfl) (by kernel_rfl) (by kernel_rfl) rfl rfl rfl rfl (fun _ _ _ h => h) (fun _ => hT) ?_
      refine al_gskip (i := 20) rfl (by kernel_rfl) (by kernel_rfl) (by kernel_rfl) rfl rfl rfl rfl (fun _ _ _ h => h) (fun _ => hT) ?_
      refine al_gskip (i := 21) rfl (by kernel_rfl) (by kernel_rfl) (by kernel_rfl) rfl rfl rfl rfl (fun _ _ _ h => h) (fun _ => hT) ?_
      -- r5.22 t43 := pick  t33 t42 Cfalse
      refine al_take (i := 22) rfl (by kernel_rfl) (by kernel_rfl) (by kernel_rfl) rfl (fun _ _ _ h => h) (op_pick_f rfl rfl) rfl ?_
      -- r5.23 t44 := move  t43
      refine al_take (i := 23) rfl (by kernel_rfl) (by kernel_rfl) (by kernel_rfl) rfl (fun _ _ _ h => h) (op_move rfl) rfl ?_
      refine al_gskip (i := 24) rfl (by kernel_rfl) (by kernel_rfl) (by kernel_rfl) rfl rfl rfl rfl (fun _ _ _ h => h) (fun _ => hT) ?_
      refine al_gskip (i := 25) rfl (by kernel_rfl) (by kernel_rfl) (by kernel_rfl) rfl rfl rfl rfl (fun _ _ _ h => h) (fun _ => hT) ?_
      refine al_gskip (i := 26) rfl (by kernel_rfl) (by kernel_rfl) (by kernel_rfl) rfl rfl rfl rfl (fun _ _ _ h => h) (fun _ => hT) ?_
      refine al_gskip (i := 27) rfl (by kernel_rfl) (by kernel_rfl) (by kernel_rfl) rfl rfl rfl rfl (fun _ _ _ h => h) (fun _ => hT) ?_
      refine al_gskip (i := 28) rfl (by kernel_rfl) (by kernel_rfl) (by kernel_rfl) rfl rfl rfl rfl (fun _ _ _ h => h) (fun _ => hT) ?_
      refine al_gskip (i := 29) rfl (by kernel_rfl) (by kernel_rfl) (by kernel_rfl) rfl rfl rfl rfl (fun _ _ _ h => h) (fun _ => hT) ?_
      refine al_gskip (i := 30) rfl (by kernel_rfl) (by kernel_rfl) (by kernel_rfl) rfl rfl rfl rfl (fun _ _ _ h => h) (fun _ => hT) ?_
      refine al_gskip (i := 31) rfl (by kernel_rfl) (by kernel_rfl) (by kernel_rfl) rfl rfl rfl rfl (fun _ _ _ h => h) (fun _ => hT) ?_
      refine al_gskip (i := 32) rfl (by kernel_rfl) (by kernel_rfl) (by kernel_rfl) rfl rfl rfl rfl (fun _ _ _ h => h) (fun _ => hT) ?_
      -- r5.33 t54 := pick  t44 t53 Cfalse
      refine al_take (i := 33) rfl (by kernel_rfl) (by kernel_rfl) (by kernel_rfl) rfl (fun _ _ _ h => h) (op_pick_f rfl rfl) rfl ?_
      refine al_done (by kernel_rfl) ?_
      refine pq_then ?_
      refine cw_cond_f rfl ?_
      refine cw_skip ?_
      refine pq_in_normal ?_
      refine pq_then ?_
      refine cw_region ?_
      -- r3.0 t14 := move  t7
      refine ol_pure rfl (op_move rfl) ?_
      -- r3.1 t15 := add t14 C1
      refine ol_pure rfl (op_add rfl rfl (by omega) (by omega)) ?_
      -- r3.2 t7 := assign  t15
      refine ol_pure rfl (op_assign rfl) ?_
      refine ol_nil ?_
      -- end of round 1 h13t h26f
      refine pq_loop _ _ (by exact (by replace hS := SS.drop [] (SS.drop [] hS); exact ⟨k + 1, Gk, rfl, by omega, rfl, by rw [Pl.all_take_succ (fun r : Rule => !(allB x [r.head] && !anyB x r.pos && !anyB (setB m atoms.length 0) r.pos && !anyB (setB m atoms.length 2) r.neg)) _ _ hlt, hpa, h26]; simp, hlk, hS⟩)) ((Sub.cons rfl (Sub.cons rfl (Sub.cons rfl (Sub.cons rfl Sub.nil))))) (by omega)
  · skip
    try simp only [decide_eq_true_eq, decide_eq_false_iff_not, Bool.not_eq_true', Bool.not_eq_false', Bool.not_eq_eq_eq_not, Bool.not_true, Bool.not_false] at h13
    refine cw_exit ?_
    refine pq_exit ?_
    refine pq_exit ?_
    refine pq_in_exit ?_
    refine pq_then ?_
    refine cw_seq ?_
    refine cw_region ?_
    -- r7.0 t6 := assign  Ctrue
    refine ol_pure rfl (op_assign rfl) ?_
    refine ol_nil ?_
    refine pq_then ?_
    refine cw_ret ?_
    refine ret1 rfl rfl ?_
    -- ret2 h13f
    exact hS.sc_b (by rw [unfoundB, Pl.all_of_take (fun r : Rule => !(allB x [r.head] && !anyB x r.pos && !anyB (setB m atoms.length 0) r.pos && !anyB (setB m atoms.length 2) r.neg)) _ _ (by omega) hpa])
set_option maxRecDepth 100000 in
set_option maxHeartbeats 1000000 in

theorem L17_WfmUnfounded_c (G : GH) (w0 : World) (hG : Holds G w0) (va vr : Value) (atoms : List (List Cell)) (rs : List Rule) (h1 : RSl 1 EAtom G va atoms) (h2 : RSl 3 ERule G vr rs) (vm : Value) (m : List Int) (h3 : RSl 1 EInt G vm m) (vx : Value) (x : List Bool) (h4 : RSl 1 EBool G vx x) :
    Calls Try.prog 8 #[.agg #[va, vr], vm, vx] w0 (Sc w0 (.bool true)) := by
  obtain ⟨oA, cA, rfl, hlA, hmA⟩ := h1.elim
  obtain ⟨oR, cR, rfl, hlR, hmR⟩ := h2.elim
  obtain ⟨oM, cM, rfl, hlM, hmM⟩ := h3.elim
  obtain ⟨oX, cX, rfl, hlX, hmX⟩ := h4.elim
  have hleX := h4.le
  refine enter Try.func8 rfl (N := 119) rfl (Nat.le_of_ble_eq_true rfl) ?_
  have hS := SS.init hG
  refine cw_seq ?_
  refine cw_region ?_
  -- r0.0 t3 := box [25] t0
  refine ol_step rfl (op_box hS rfl rfl) ?_
  clear hS
  rintro _ w ⟨b3, rfl, hS⟩
  -- r0.1 t6 := assign  Cfalse
  refine ol_pure rfl (op_assign rfl) ?_
  refine ol_nil ?_
  refine pq_then ?_
  refine cw_seq ?_
  refine cw_region ?_
  -- r1.0 t14 := call f12 
  refine ol_step rfl (op_call_sc hS cf_12 rfl (L17_head_c G _ hS.hold)) ?_
  clear hS
  rintro _ w ⟨rfl, hS⟩
  -- r1.1 t7 := assign  t14
  refine ol_pure rfl (op_assign rfl) ?_
  refine ol_nil ?_
  refine pq_then ?_
  refine cw_seq ?_
  refine cw_seq ?_
  refine cw_region ?_
  -- r2.0 t15 := load [25] t3
  refine ol_load rfl (op_loadN agg_25 rfl (by rfl) (fun w hw k u hk => (hw.bcell (i := 0) rfl).trans hk)) hS ?_
  -- r2.1 t16 := call f13 t15
  refine ol_step rfl (op_call_sc hS cf_13 rfl (L17_may_c G _ hS.hold _ _ atoms rs h1 h2)) ?_
  clear hS
  rintro _ w ⟨rfl, hS⟩
  -- r2.2 t17 := not t16
  refine ol_pure rfl (op_not rfl) ?_
  refine ol_nil ?_
  refine pq_then ?_
  refine cw_cond rfl (fun h17 => ?_) (fun h17 => ?_)
  · skip
    try simp only [decide_eq_true_eq, decide_eq_false_iff_not, Bool.not_eq_true', Bool.not_eq_false', Bool.not_eq_eq_eq_not, Bool.not_true, Bool.not_false] at h17
    refine cw_seq ?_
    refine cw_region ?_
    -- r3.0 t18 := move  t7
    refine ol_pure rfl (op_move rfl) ?_
    -- r3.1 t6 := assign  t18
    refine ol_pure rfl (op_assign rfl) ?_
    refine ol_nil ?_
    refine pq_then ?_
    refine cw_ret ?_
    refine pq_ret ?_
    refine ret1 rfl rfl ?_
    -- ret1 h17t
    exact hS.sc_b rfl
  · skip
    try simp only [decide_eq_true_eq, decide_eq_false_iff_not, Bool.not_eq_true', Bool.not_eq_false', Bool.not_eq_eq_eq_not, Bool.not_true, Bool.not_false] at h17
    have hmay : fewP atoms rs = true ∧ RightP atoms rs := by
      rw [Bool.and_eq_true, rightPB_iff] at h17
      exact h17
    have hP := PrOk.of_may hmay.1 hmay.2
    have hPn := hP.n_le
    have hle := Le.refl G
    refine cw_skip ?_
    refine pq_then ?_
    refine cw_seq ?_
    refine cw_region ?_
    -- r4.0 t19 := move  t2
    refine ol_pure rfl (op_move rfl) ?_
    -- r4.1 t20 := move  t2
    refine ol_pure rfl (op_move rfl) ?_
    -- r4.2 t21 := call len t20
    refine ol_pure rfl (op_len sl_26 rfl rfl) ?_
    -- r4.3 t22 := fieldAddr [25, 0] t3
    refine ol_pure rfl (op_fieldAddr fld_25_0 rfl) ?_
    -- r4.4 t23 := load [22] t22
    refine ol_load rfl (op_load1 one_22 rfl (fun w hw => (hw.bcell (i := 0) rfl).trans rfl)) hS ?_
    -- r4.5 t24 := call len t23
    refine ol_pure rfl (op_len sl_22 rfl rfl) ?_
    -- r4.6 t25 := call min t21 t24
    refine ol_pure rfl (op_minN rfl rfl) ?_
    -- r4.7 t26 := slice t19 [:t25:]
    have hcut := h4.cut (lo := 0) (hi := min x.length atoms.length) (Nat.zero_le _) (Nat.min_le_left _ _)
    obtain ⟨oY, cY, hY, _, _⟩ := hcut.elimN (n := min x.length atoms.length) (by simp)
    rw [hY, List.drop_zero] at hcut
    have hxl : (x.take (min x.length atoms.length)).length = min x.length atoms.length := by simp
    have hxn : (x.take (min x.length atoms.length)).length ≤ atoms.length := by rw [hxl]; exact Nat.min_le_right _ _
    refine ol_pure rfl (op_val (op_slice_h sl_26 rfl rfl (by omega)) hY) ?_
    -- r4.8 t2 := assign  t26
    refine ol_pure rfl (op_assign rfl) ?_
    refine ol_nil ?_
    refine pq_then ?_
    refine cw_seq ?_
    refine cw_region ?_
    -- r5.0 t27 := load [25] t3
    refine ol_load rfl (op_loadN agg_25 rfl (by rfl) (fun w hw k u hk => (hw.bcell (i := 0) rfl).trans hk)) hS ?_
    -- r5.1 t28 := move  t1
    refine ol_pure rfl (op_move rfl) ?_
    -- r5.2 t29 := call f20 t27 t28
    refine ol_step rfl (op_call_fr hS cf_20 rfl (wfm_Unfounded_c _ _ hS.hold EAtom.mono _ _ atoms rs (h1.mono EAtom.mono hle) (h2.mono ERule.mono hle) hP _ m (h3.mono EInt.mono hle))) ?_
    clear hS
    rintro v29 w ⟨F29, G29, hR29, hF29, hf29, hl29, hS⟩
    obtain ⟨oU, cU, rfl, _, _⟩ := hR29.elim
    have hle := hl29
    replace hR29 := hR29.mono EInt.mono hf29
    have hUl := pickI_len (fun i => !atB (foundB atoms.length rs m) (i : Int)) atoms.length
    rw [show pickI (fun i => !atB (foundB atoms.length rs m) (i : Int)) atoms.length = (unfI atoms.length rs m) from rfl] at hUl
    -- r5.3 t8 := assign  t29
    refine ol_pure rfl (op_assign rfl) ?_
    refine ol_nil ?_
    refine pq_then ?_
    refine cw_seq ?_
    refine cw_region ?_
    -- r6.0 t30 := fieldAddr [25, 0] t3
    refine ol_pure rfl (op_fieldAddr fld_25_0 rfl) ?_
    -- r6.1 t31 := load [22] t30
    refine ol_load rfl (op_load1 one_22 rfl (fun w hw => (hw.bcell (i := 0) rfl).trans rfl)) hS ?_
    -- r6.2 t32 := call len t31
    refine ol_pure rfl (op_len sl_22 rfl rfl) ?_
    -- r6.3 t33 := makeSlice [26] t32 t32
    refine ol_step rfl (op_makeSlice (n := atoms.length) hS sl_26 el_4 rfl rfl rfl (by omega) (by unfold maxLen; omega)) ?_
    clear hS
    rintro _ w ⟨in_, rfl, hS⟩
    -- r6.4 t9 := assign  t33
    refine ol_pure rfl (op_assign rfl) ?_
    refine ol_nil ?_
    refine pq_then ?_
    refine cw_seq ?_
    refine cw_seq ?_
    refine cw_region ?_
    -- r7.0 t10 := assign  C0
    refine ol_pure rfl (op_assign rfl) ?_
    refine ol_nil ?_
    refine pq_then ?_
    refine cw_block ?_
    refine cw_loop (fun e w n => ∃ k : Nat, e = [(1, .slice oM m.length cM), (2, .slice oY (min x.length atoms.length) cY), (3, .pointer (some ⟨b3, 0, none⟩)), (7, .bool true), (8, .slice oU (unfI atoms.length rs m).length cU), (9, .slice in_ atoms.length atoms.length), (10, .int .i64 (k : Nat))] ∧ k ≤ (unfI atoms.length rs m).length ∧ n = (unfI atoms.length rs m).length - k ∧ SS G w0 G29 [.row in_ atoms.length atoms.length 4 1 ((markB atoms.length ((unfI atoms.length rs m).take k)).map Value.bool), .blk b3 25 [.slice oA atoms.length cA, .slice oR rs.length cR]] w) _ _ (by exact ⟨0, rfl, Nat.zero_le _, rfl, by rw [List.take_zero, markB_nil]; simpa using hS⟩) ((Sub.cons rfl (Sub.cons rfl (Sub.cons rfl (Sub.cons rfl (Sub.cons rfl (Sub.cons rfl (Sub.cons rfl Sub.nil)))))))) ?_
    clear hS
    rintro e w n ⟨k, rfl, hk, rfl, hS⟩
    refine cw_seq ?_
    refine cw_seq ?_
    refine cw_region ?_
    -- r8.0 t34 := move  t10
    refine ol_pure rfl (op_move rfl) ?_
    -- r8.1 t35 := move  t8
    refine ol_pure rfl (op_move rfl) ?_
    -- r8.2 t36 := call len t35
    refine ol_pure rfl (op_len sl_27 rfl rfl) ?_
    -- r8.3 t37 := lss t34 t36
    refine ol_pure rfl (op_lss rfl rfl) ?_
    refine ol_nil ?_
    refine pq_then ?_
    refine cw_cond rfl (fun h37 => ?_) (fun h37 => ?_)
    · skip
      try simp only [decide_eq_true_eq, decide_eq_false_iff_not, Bool.not_eq_true', Bool.not_eq_false', Bool.not_eq_eq_eq_not, Bool.not_true, Bool.not_false] at h37
      have hlt : k < (unfI atoms.length rs m).length := by omega
      obtain ⟨hoU, hcU, _⟩ := hR29.int hlt
      have hur := pickI_range (List.getElem_mem hlt)
      obtain ⟨j, hj⟩ := Int.eq_ofNat_of_zero_le hur.1
      have hjn : j < atoms.length := by omega
      rw [hj] at hcU
      have hin := (hS.news (j := 0) rfl j _ (List.getElem?_eq_getElem (by simp [markB_len]; omega))).1
      refine cw_skip ?_
      refine pq_then ?_
      refine cw_seq ?_
      refine cw_block ?_
      refine cw_seq ?_
      refine cw_seq ?_
      refine al_start' hS (hS.take 0) (by kernel_rfl) rfl (fun w hS hT => ?_)
      -- r10.0 t40 := move  t8
      refine al_take (i := 0) rfl (by kernel_rfl) (by kernel_rfl) (by kernel_rfl) rfl (fun _ _ _ h => h) (op_move rfl) rfl ?_
      -- r10.1 t41 := move  t10
      refine al_take (i := 1) rfl (by kernel_rfl) (by kernel_rfl) (by kernel_rfl) rfl (fun _ _ _ h => h) (op_move rfl) rfl ?_
      -- r10.2 t42 := indexAddr [27] t40 t41
      refine al_take (i := 2) rfl (by kernel_rfl) (by kernel_rfl) (by kernel_rfl) rfl (fun _ _ _ h => h) (op_indexN sl_27 rfl rfl (by omega) (by assumption)) rfl ?_
      -- r10.3 t43 := load [3] t42
      refine al_load (i := 3) rfl (by kernel_rfl) (by kernel_rfl) (by kernel_rfl) rfl (fun _ _ _ h => h) (by exact op_load1 one_3 rfl (fun w hw => hw.gcell hcU)) rfl hT ?_
      -- r10.4 t44 := lss t43 C0
      refine al_take (i := 4) rfl (by kernel_rfl) (by kernel_rfl) (by kernel_rfl) rfl (fun _ _ _ h => h) (op_lss rfl rfl) rfl ?_
      -- r10.5 t45 := move  t44
      refine al_take (i := 5) rfl (by kernel_rfl) (by kernel_rfl) (by kernel_rfl) rfl (fun _ _ _ h => h) (op_move rfl) rfl ?_
      refine al_split (fun h45 => ?_) (fun h45 => ?_)
      · skip
        try simp only [decide_eq_true_eq, decide_eq_false_iff_not, Bool.not_eq_true', Bool.not_eq_false', Bool.not_eq_eq_eq_not, Bool.not_true, Bool.not_false] at h45
        refine al_gskip (i := 6) rfl (by kernel_rfl) (by kernel_rfl) (by kernel_rfl) rfl rfl rfl rfl (fun _ _ _ h => h) (fun _ => hT) ?_
        refine al_gskip (i := 7) rfl (by kernel_rfl) (by kernel_rfl) (by kernel_rfl) rfl rfl rfl rfl (fun _ _ _ h => h) (fun _ => hT) ?_
        refine al_gskip (i := 8) rfl (by kernel_rfl) (by kernel_rfl) (by kernel_rfl) rfl rfl rfl rfl (fun _ _ _ h => h) (fun _ => hT) ?_
        refine al_gskip (i := 9) rfl (by kernel_rfl) (by kernel_rfl) (by kernel_rfl) rfl rfl rfl rfl (fun _ _ _ h => h) (fun _ => hT) ?_
        refine al_gskip (i := 10) rfl (by kernel_rfl) (by kernel_rfl) (by kernel_rfl) rfl rfl rfl rfl (fun _ _ _ h => h) (fun _ => hT) ?_
        refine al_gskip (i := 11) rfl (by kernel_rfl) (by kernel_rfl) (by kernel_rfl) rfl rfl rfl rfl (fun _ _ _ h => h) (fun _ => hT) ?_
        refine al_gskip (i := 12) rfl (by kernel_rfl) (by kernel_rfl) (by kernel_rfl) rfl rfl rfl rfl (fun _ _ _ h => h) (fun _ => hT) ?_
        -- r10.13 t53 := pick  t45 Ctrue t52
        refine al_take (i := 13) rfl (by kernel_rfl) (by kernel_rfl) (by kernel_rfl) rfl (fun _ _ _ h => h) (op_pick_t rfl rfl) rfl ?_
        -- r10.14 t54 := move  t53
        refine al_take (i := 14) rfl (by kernel_rfl) (by kernel_rfl) (by kernel_rfl) rfl (fun _ _ _ h => h) (op_move rfl) rfl ?_
        refine al_gskip (i := 15) rfl (by kernel_rfl) (by kernel_rfl) (by kernel_rfl) rfl rfl rfl rfl (fun _ _ _ h => h) (fun _ => hT) ?_
        refine al_gskip (i := 16) rfl (by kernel_rfl) (by kernel_rfl) (by kernel_rfl) rfl rfl rfl rfl (fun _ _ _ h => h) (fun _ => hT) ?_
        refine al_gskip (i := 17) rfl (by kernel_rfl) (by kernel_rfl) (by kernel_rfl) rfl rfl rfl rfl (fun _ _ _ h => h) (fun _ => hT) ?_
        refine al_gundef (i := 18) rfl (by kernel_rfl) (by kernel_rfl) (by kernel_rfl) rfl rfl rfl (fun _ _ _ h => h) (fun _ => hT) ?_
        refine al_gundef (i := 19) rfl (by kernel_rfl) (by kernel_rfl) (by kernel_rfl) rfl rfl rfl (fun _ _ _ h => h) (fun _ => hT) ?_
        refine al_gundef (i := 20) rfl (by kernel_rfl) (by kernel_rfl) (by kernel_rfl) rfl rfl rfl (fun _ _ _ h => h) (fun _ => hT) ?_
        refine al_gundef (i := 21) rfl (by kernel_rfl) (by kernel_rfl) (by kernel_rfl) rfl rfl rfl (fun _ _ _ h => h) (fun _ => hT) ?_
        refine al_gundef (i := 22) rfl (by kernel_rfl) (by kernel_rfl) (by kernel_rfl) rfl rfl rfl (fun _ _ _ h => h) (fun _ => hT) ?_
        refine al_gundef (i := 23) rfl (by kernel_rfl) (by kernel_rfl) (by kernel_rfl) rfl rfl rfl (fun _ _ _ h => h) (fun _ => hT) ?_
        refine al_gundef (i := 24) rfl (by kernel_rfl) (by kernel_rfl) (by kernel_rfl) rfl rfl rfl (fun _ _ _ h => h) (fun _ => hT) ?_
        refine al_gundef (i := 25) rfl (by kernel_rfl) (by kernel_rfl) (by kernel_rfl) rfl rfl rfl (fun _ _ _ h => h) (fun _ => hT) ?_
        refine al_gundef (i := 26) rfl (by kernel_rfl) (by kernel_rfl) (by kernel_rfl) rfl rfl rfl (fun _ _ _ h => h) (fun _ => hT) ?_
        refine al_gundef (i := 27) rfl (by kernel_rfl) (by kernel_rfl) (by kernel_rfl) rfl rfl rfl (fun _ _ _ h => h) (fun _ => hT) ?_
        refine al_gskip (i := 28) rfl (by kernel_rfl) (by kernel_rfl) (by kernel_rfl) rfl rfl rfl rfl (fun _ _ _ h => h) (fun _ => hT) ?_
        -- r10.29 t69 := pick  t54 Ctrue t68
        refine al_take (i := 29) rfl (by kernel_rfl) (by kernel_rfl) (by kernel_rfl) rfl (fun _ _ _ h => h) (op_pick_t rfl rfl) rfl ?_
        refine al_done (by kernel_rfl) ?_
        refine pq_then ?_
        refine cw_cond_t rfl ?_
        refine cw_seq ?_
        refine cw_region ?_
        -- r11.0 t6 := assign  Cfalse
        refine ol_pure rfl (op_assign rfl) ?_
        refine ol_nil ?_
        refine pq_then ?_
        refine cw_ret ?_
        refine pq_ret ?_
        refine pq_in_ret ?_
        refine pq_ret ?_
        refine pq_ret ?_
        refine pq_in_ret ?_
        refine pq_ret ?_
        refine ret1 rfl rfl ?_
        -- ret2 h17f h37t h45t
        exact (by omega : False).elim
      · skip
        try simp only [decide_eq_true_eq, decide_eq_false_iff_not, Bool.not_eq_true', Bool.not_eq_false', Bool.not_eq_eq_eq_not, Bool.not_true, Bool.not_false] at h45
        -- r10.6 t46 := move  t8 ?5=False
        refine al_gtake (i := 6) rfl (by kernel_rfl) (by kernel_rfl) (by kernel_rfl) rfl rfl rfl (fun _ _ _ h => h) (op_move rfl) rfl ?_
        -- r10.7 t47 := move  t10 ?5=False
        refine al_gtake (i := 7) rfl (by kernel_rfl) (by kernel_rfl) (by kernel_rfl) rfl rfl rfl (fun _ _ _ h => h) (op_move rfl) rfl ?_
        -- r10.8 t48 := indexAddr [27] t46 t47 ?5=False
        refine al_gtake (i := 8) rfl (by kernel_rfl) (by kernel_rfl) (by kernel_rfl) rfl rfl rfl (fun _ _ _ h => h) (op_indexN sl_27 rfl rfl (by omega) (by assumption)) rfl ?_
        -- r10.9 t49 := load [3] t48 ?5=False
        refine al_gload (i := 9) rfl (by kernel_rfl) (by kernel_rfl) (by kernel_rfl) rfl rfl rfl (fun _ _ _ h => h) (by exact op_load1 one_3 rfl (fun w hw => hw.gcell hcU)) rfl hT ?_
        -- r10.10 t50 := move  t9 ?5=False
        refine al_gtake (i := 10) rfl (by kernel_rfl) (by kernel_rfl) (by kernel_rfl) rfl rfl rfl (fun _ _ _ h => h) (op_move rfl) rfl ?_
        -- r10.11 t51 := call len t50 ?5=False
        refine al_gtake (i := 11) rfl (by kernel_rfl) (by kernel_rfl) (by kernel_rfl) rfl rfl rfl (fun _ _ _ h => h) (op_len sl_26 rfl rfl) rfl ?_
        -- r10.12 t52 := geq t49 t51 ?5=False
        refine al_gtake (i := 12) rfl (by kernel_rfl) (by kernel_rfl) (by kernel_rfl) rfl rfl rfl (fun _ _ _ h => h) (op_geq rfl rfl) rfl ?_
        -- r10.13 t53 := pick  t45 Ctrue t52
        refine al_take (i := 13) rfl (by kernel_rfl) (by kernel_rfl) (by kernel_rfl) rfl (fun _ _ _ h => h) (op_pick_f rfl rfl) rfl ?_
        -- r10.14 t54 := move  t53
        refine al_take (i := 14) rfl (by kernel_rfl) (by kernel_rfl) (by kernel_rfl) rfl (fun _ _ _ h => h) (op_move rfl) rfl ?_
        refine al_split (fun h54 => ?_) (fun h54 => ?_)
        · skip
          try simp only [decide_eq_true_eq, decide_eq_false_iff_not, Bool.not_eq_true', Bool.not_eq_false', Bool.not_eq_eq_eq_not, Bool.not_true, Bool.not_false] at h54
          refine al_gskip (i := 15) rfl (by kernel_rfl) (by kernel_rfl) (by kernel_rfl) rfl rfl rfl rfl (fun _ _ _ h => h) (fun _ => hT) ?_
          refine al_gskip (i := 16) rfl (by kernel_rfl) (by kernel_rfl) (by kernel_rfl) rfl rfl rfl rfl (fun _ _ _ h => h) (fun _ => hT) ?_
          refine al_gskip (i := 17) rfl (by kernel_rfl) (by kernel_rfl) (by kernel_rfl) rfl rfl rfl rfl (fun _ _ _ h => h) (fun _ => hT) ?_
          refine al_gundef (i := 18) rfl (by kernel_rfl) (by kernel_rfl) (by kernel_rfl) rfl rfl rfl (fun _ _ _ h => h) (fun _ => hT) ?_
          refine al_gundef (i := 19) rfl (by kernel_rfl) (by kernel_rfl) (by kernel_rfl) rfl rfl rfl (fun _ _ _ h => h) (fun _ => hT) ?_
          refine al_gundef (i := 20) rfl (by kernel_rfl) (by kernel_rfl) (by kernel_rfl) rfl rfl rfl (fun _ _ _ h => h) (fun _ => hT) ?_
          refine al_gundef (i := 21) rfl (by kernel_rfl) (by kernel_rfl) (by kernel_rfl) rfl rfl rfl (fun _ _ _ h => h) (fun _ => hT) ?_
          refine al_gundef (i := 22) rfl (by kernel_rfl) (by kernel_rfl) (by kernel_rfl) rfl rfl rfl (fun _ _ _ h => h) (fun _ => hT) ?_
          refine al_gundef (i := 23) rfl (by kernel_rfl) (by kernel_rfl) (by kernel_rfl) rfl rfl rfl (fun _ _ _ h => h) (fun _ => hT) ?_
          refine al_gundef (i := 24) rfl (by kernel_rfl) (by kernel_rfl) (by kernel_rfl) rfl rfl rfl (fun _ _ _ h => h) (fun _ => hT) ?_
          refine al_gundef (i := 25) rfl (by kernel_rfl) (by kernel_rfl) (by kernel_rfl) rfl rfl rfl (fun _ _ _ h => h) (fun _ => hT) ?_
          refine al_gundef (i := 26) rfl (by kernel_rfl) (by kernel_rfl) (by kernel_rfl) rfl rfl rfl (fun _ _ _ h => h) (fun _ => hT) ?_
          refine al_gundef (i := 27) rfl (by kernel_rfl) (by kernel_rfl) (by kernel_rfl) rfl rfl rfl (fun _ _ _ h => h) (fun _ => hT) ?_
          refine al_gskip (i := 28) rfl (by kernel_rfl) (by kernel_rfl) (by kernel_rfl) rfl rfl rfl rfl (fun _ _ _ h => h) (fun _ => hT) ?_
          -- r10.29 t69 := pick  t54 Ctrue t68
          refine al_take (i := 29) rfl (by kernel_rfl) (by kernel_rfl) (by kernel_rfl) rfl (fun _ _ _ h => h) (op_pick_t rfl rfl) rfl ?_
          refine al_done (by kernel_rfl) ?_
          refine pq_then ?_
          refine cw_cond_t rfl ?_
          refine cw_seq ?_
          refine cw_region ?_
          -- r11.0 t6 := assign  Cfalse
          refine ol_pure rfl (op_assign rfl) ?_
          refine ol_nil ?_
          refine pq_then ?_
          refine cw_ret ?_
          refine pq_ret ?_
          refine pq_in_ret ?_
          refine pq_ret ?_
          refine pq_ret ?_
          refine pq_in_ret ?_
          refine pq_ret ?_
          refine ret1 rfl rfl ?_
          -- ret2 h17f h37t h45f h54t
          exact (by omega : False).elim
        · skip
          try simp only [decide_eq_true_eq, decide_eq_false_iff_not, Bool.not_eq_true', Bool.not_eq_false', Bool.not_eq_eq_eq_not, Bool.not_true, Bool.not_false] at h54
          -- r10.15 t55 := move  t10 ?14=False
          refine al_gtake (i := 15) rfl (by kernel_rfl) (by kernel_rfl) (by kernel_rfl) rfl rfl rfl (fun _ _ _ h => h) (op_move rfl) rfl ?_
          -- r10.16 t56 := gtr t55 C0 ?14=False
          refine al_gtake (i := 16) rfl (by kernel_rfl) (by kernel_rfl) (by kernel_rfl) rfl rfl rfl (fun _ _ _ h => h) (op_gtr rfl rfl) rfl ?_
          -- r10.17 t57 := move  t56 ?14=False
          refine al_gtake (i := 17) rfl (by kernel_rfl) (by kernel_rfl) (by kernel_rfl) rfl rfl rfl (fun _ _ _ h => h) (op_move rfl) rfl ?_
          refine al_split (fun h57 => ?_) (fun h57 => ?_)
          · skip
            try simp only [decide_eq_true_eq, decide_eq_false_iff_not, Bool.not_eq_true', Bool.not_eq_false', Bool.not_eq_eq_eq_not, Bool.not_true, Bool.not_false] at h57
            have hlt1 : k - 1 < (unfI atoms.length rs m).length := by omega
            obtain ⟨_, hcU1', _⟩ := hR29.int hlt1
            have hcU1 : gcell G29 (elA oU (((k : Int) - 1).toNat * 1)) = some (.int .i64 (unfI atoms.length rs m)[k - 1]) := by rw [show ((k : Int) - 1).toNat = k - 1 from by omega]; exact hcU1'
            have hstp := pickI_step (fun i => !atB (foundB atoms.length rs m) (i : Int)) atoms.length k (by omega) hlt
            have hstp2 : (unfI atoms.length rs m)[k - 1] < (j : Int) := by rw [← hj]; exact hstp
            -- r10.18 t58 := move  t8 ?17=True
            refine al_gtake (i := 18) rfl (by kernel_rfl) (by kernel_rfl) (by kernel_rfl) rfl rfl rfl (fun _ _ _ h => h) (op_move rfl) rfl ?_
            -- r10.19 t59 := move  t10 ?17=True
            refine al_gtake (i := 19) rfl (by kernel_rfl) (by kernel_rfl) (by kernel_rfl) rfl rfl rfl (fun _ _ _ h => h) (op_move rfl) rfl ?_
            -- r10.20 t60 := indexAddr [27] t58 t59 ?17=True
            refine al_gtake (i := 20) rfl (by kernel_rfl) (by kernel_rfl) (by kernel_rfl) rfl rfl rfl (fun _ _ _ h => h) (op_indexN sl_27 rfl rfl (by omega) (by assumption)) rfl ?_
            -- r10.21 t61 := load [3] t60 ?17=True
            refine al_gload (i := 21) rfl (by kernel_rfl) (by kernel_rfl) (by kernel_rfl) rfl rfl rfl (fun _ _ _ h => h) (by exact op_load1 one_3 rfl (fun w hw => hw.gcell hcU)) rfl hT ?_
            -- r10.22 t62 := move  t8 ?17=True
            refine al_gtake (i := 22) rfl (by kernel_rfl) (by kernel_rfl) (by kernel_rfl) rfl rfl rfl (fun _ _ _ h => h) (op_move rfl) rfl ?_
            -- r10.23 t63 := move  t10 ?17=True
            refine al_gtake (i := 23) rfl (by kernel_rfl) (by kernel_rfl) (by kernel_rfl) rfl rfl rfl (fun _ _ _ h => h) (op_move rfl) rfl ?_
            -- r10.24 t64 := sub t63 C1 ?17=True
            refine al_gtake (i := 24) rfl (by kernel_rfl) (by kernel_rfl) (by kernel_rfl) rfl rfl rfl (fun _ _ _ h => h) (op_sub rfl rfl (by omega) (by omega)) rfl ?_
            -- r10.25 t65 := indexAddr [27] t62 t64 ?17=True
            refine al_gtake (i := 25) rfl (by kernel_rfl) (by kernel_rfl) (by kernel_rfl) rfl rfl rfl (fun _ _ _ h => h) (op_indexAddr sl_27 rfl rfl (by omega) (by omega) (by assumption)) rfl ?_
            -- r10.26 t66 := load [3] t65 ?17=True
            refine al_gload (i := 26) rfl (by kernel_rfl) (by kernel_rfl) (by kernel_rfl) rfl rfl rfl (fun _ _ _ h => h) (by exact op_load1 one_3 rfl (fun w hw => hw.gcell hcU1)) rfl hT ?_
            -- r10.27 t67 := leq t61 t66 ?17=True
            refine al_gtake (i := 27) rfl (by kernel_rfl) (by kernel_rfl) (by kernel_rfl) rfl rfl rfl (fun _ _ _ h => h) (op_leq rfl rfl) rfl ?_
            -- r10.28 t68 := pick  t57 t67 Cfalse ?14=False
            refine al_gtake (i := 28) rfl (by kernel_rfl) (by kernel_rfl) (by kernel_rfl) rfl rfl rfl (fun _ _ _ h => h) (op_pick_t rfl rfl) rfl ?_
            -- r10.29 t69 := pick  t54 Ctrue t68
            refine al_take (i := 29) rfl (by kernel_rfl) (by kernel_rfl) (by kernel_rfl) rfl (fun _ _ _ h => h) (op_pick_f rfl rfl) rfl ?_
            refine al_done (by kernel_rfl) ?_
            refine pq_then ?_
            refine cw_cond rfl (fun h69 => ?_) (fun h69 => ?_)
            · skip
              try simp only [decide_eq_true_eq, decide_eq_false_iff_not, Bool.not_eq_true', Bool.not_eq_false', Bool.not_eq_eq_eq_not, Bool.not_true, Bool.not_false] at h69
              refine cw_seq ?_
              refine cw_region ?_
              -- r11.0 t6 := assign  Cfalse
              refine ol_pure rfl (op_assign rfl) ?_
              refine ol_nil ?_
              refine pq_then ?_
              refine cw_ret ?_
              refine pq_ret ?_
              refine pq_in_ret ?_
              refine pq_ret ?_
              refine pq_ret ?_
              refine pq_in_ret ?_
              refine pq_ret ?_
              refine ret1 rfl rfl ?_
              -- ret2 h17f h37t h45f h54f h57t h69t
              exact (by omega : False).elim
            · skip
              try simp only [decide_eq_true_eq, decide_eq_false_iff_not, Bool.not_eq_true', Bool.not_eq_false', Bool.not_eq_eq_eq_not, Bool.not_true, Bool.not_false] at h69
              refine cw_skip ?_
              refine pq_then ?_
              refine cw_region ?_
              -- r12.0 t70 := move  t9
              refine ol_pure rfl (op_move rfl) ?_
              -- r12.1 t71 := move  t8
              refine ol_pure rfl (op_move rfl) ?_
              -- r12.2 t72 := move  t10
              refine ol_pure rfl (op_move rfl) ?_
              -- r12.3 t73 := indexAddr [27] t71 t72
              refine ol_pure rfl (op_indexN sl_27 rfl rfl (by omega) (by assumption)) ?_
              -- r12.4 t74 := load [3] t73
              refine ol_load rfl (op_load1 one_3 rfl (fun w hw => hw.gcell hcU)) hS ?_
              -- r12.5 t75 := indexAddr [26] t70 t74
              refine ol_pure rfl (op_indexN sl_26 rfl rfl (by omega) (by assumption)) ?_
              -- r12.6 _ := store [4] t75 Ctrue
              refine ol_step0  (op_storeR (j := 0) (k := j * 1) hS sz_4 rfl rfl rfl rfl (by simp [markB_len]; omega)) ?_
              clear hS
              rintro _ w hS; (try simp only [List.nil_append, List.cons_append, List.set] at hS)
              have hms := markB_succ (n := atoms.length) hlt hur.1
              rw [show (unfI atoms.length rs m)[k].toNat = j from by rw [hj]; rfl] at hms
              rw [Nat.mul_one, ← List.map_set, ← hms] at hS
              refine ol_nil ?_
              refine pq_in_normal ?_
              refine pq_then ?_
              refine cw_region ?_
              -- r9.0 t38 := move  t10
              refine ol_pure rfl (op_move rfl) ?_
              -- r9.1 t39 := add t38 C1
              refine ol_pure rfl (op_add rfl rfl (by omega) (by omega)) ?_
              -- r9.2 t10 := assign  t39
              refine ol_pure rfl (op_assign rfl) ?_
              refine ol_nil ?_
              -- end of round 1 h17f h37t h45f h54f h57t h69f
              refine pq_loop _ _ (by exact ⟨k + 1, rfl, by omega, rfl, hS⟩) ((Sub.cons rfl (Sub.cons rfl (Sub.cons rfl (Sub.cons rfl (Sub.cons rfl (Sub.cons rfl (Sub.cons rfl Sub.nil)))))))) (by omega)
          · skip
            try simp only [decide_eq_true_eq, decide_eq_false_iff_not, Bool.not_eq_true', Bool.not_eq_false', Bool.not_eq_eq_eq_not, Bool.not_true, Bool.not_false] at h57
            refine al_gskip (i := 18) rfl (by kernel_rfl) (by kernel_rfl) (by kernel_rfl) rfl rfl rfl rfl (fun _ _ _ h => h) (fun _ => hT) ?_
            refine al_gskip (i := 19) rfl (by kernel_rfl) (by kernel_rfl) (by kernel_rfl) rfl rfl rfl rfl (fun _ _ _ h => h) (fun _ => hT) ?_
            refine al_gskip (i := 20) rfl (by kernel_rfl) (by kernel_rfl) (by kernel_rfl) rfl rfl rfl rfl (fun _ _ _ h => h) (fun _ => hT) ?_
            refine al_gskip (i := 21) rfl (by kernel_rfl) (by kernel_rfl) (by kernel_rfl) rfl rfl rfl rfl (fun _ _ _ h => h) (fun _ => hT) ?_
            refine al_gskip (i := 22) rfl (by kernel_rfl) (by kernel_rfl) (by kernel_rfl) rfl rfl rfl rfl (fun _ _ _ h => h) (fun _ => hT) ?_
            refine al_gskip (i := 23) rfl (by kernel_rfl) (by kernel_rfl) (by kernel_rfl) rfl rfl rfl rfl (fun _ _ _ h => h) (fun _ => hT) ?_
            refine al_gskip (i := 24) rfl (by kernel_rfl) (by kernel_rfl) (by kernel_rfl) rfl rfl rfl rfl (fun _ _ _ h => h) (fun _ => hT) ?_
            refine al_gskip (i := 25) rfl (by kernel_rfl) (by kernel_rfl) (by kernel_rfl) rfl rfl rfl rfl (fun _ _ _ h => h) (fun _ => hT) ?_
            refine al_gskip (i := 26) rfl (by kernel_rfl) (by kernel_rfl) (by kernel_rfl) rfl rfl rfl rfl (fun _ _ _ h => h) (fun _ => hT) ?_
            refine al_gskip (i := 27) rfl (by kernel_rfl) (by kernel_rfl) (by kernel_rfl) rfl rfl rfl rfl (fun _ _ _ h => h) (fun _ => hT) ?_
            -- r10.28 t68 := pick  t57 t67 Cfalse ?14=False
            refine al_gtake (i := 28) rfl (by kernel_rfl) (by kernel_rfl) (by kernel_rfl) rfl rfl rfl (fun _ _ _ h => h) (op_pick_f rfl rfl) rfl ?_
            -- r10.29 t69 := pick  t54 Ctrue t68
            refine al_take (i := 29) rfl (by kernel_rfl) (by kernel_rfl) (by kernel_rfl) rfl (fun _ _ _ h => h) (op_pick_f rfl rfl) rfl ?_
            refine al_done (by kernel_rfl) ?_
            refine pq_then ?_
            refine cw_cond_f rfl ?_
            refine cw_skip ?_
            refine pq_then ?_
            refine cw_region ?_
            -- r12.0 t70 := move  t9
            refine ol_pure rfl (op_move rfl) ?_
            -- r12.1 t71 := move  t8
            refine ol_pure rfl (op_move rfl) ?_
            -- r12.2 t72 := move  t10
            refine ol_pure rfl (op_move rfl) ?_
            -- r12.3 t73 := indexAddr [27] t71 t72
            refine ol_pure rfl (op_indexN sl_27 rfl rfl (by omega) (by assumption)) ?_
            -- r12.4 t74 := load [3] t73
            refine ol_load rfl (op_load1 one_3 rfl (fun w hw => hw.gcell hcU)) hS ?_
            -- r12.5 t75 := indexAddr [26] t70 t74
            refine ol_pure rfl (op_indexN sl_26 rfl rfl (by omega) (by assumption)) ?_
            -- r12.6 _ := store [4] t75 Ctrue
            refine ol_step0  (op_storeR (j := 0) (k := j * 1) hS sz_4 rfl rfl rfl rfl (by simp [markB_len]; omega)) ?_
            clear hS
            rintro _ w hS; (try simp only [List.nil_append, List.cons_append, List.set] at hS)
            have hms := markB_succ (n := atoms.length) hlt hur.1
            rw [show (unfI atoms.length rs m)[k].toNat = j from by rw [hj]; rfl] at hms
            rw [Nat.mul_one, ← List.map_set, ← hms] at hS
            refine ol_nil ?_
            refine pq_in_normal ?_
            refine pq_then ?_
            refine cw_region ?_
            -- r9.0 t38 := move  t10
            refine ol_pure rfl (op_move rfl) ?_
            -- r9.1 t39 := add t38 C1
            refine ol_pure rfl (op_add rfl rfl (by omega) (by omega)) ?_
            -- r9.2 t10 := assign  t39
            refine ol_pure rfl (op_assign rfl) ?_
            refine ol_nil ?_
            -- end of round 1 h17f h37t h45f h54f h57f
            refine pq_loop _ _ (by exact ⟨k + 1, rfl, by omega, rfl, hS⟩) ((Sub.cons rfl (Sub.cons rfl (Sub.cons rfl (Sub.cons rfl (Sub.cons rfl (Sub.cons rfl (Sub.cons rfl Sub.nil)))))))) (by omega)
    · skip
      try simp only [decide_eq_true_eq, decide_eq_false_iff_not, Bool.not_eq_true', Bool.not_eq_false', Bool.not_eq_eq_eq_not, Bool.not_true, Bool.not_false] at h37
      rw [List.take_of_length_le (by omega), markB_unf] at hS
      obtain ⟨F2, G2, hIn, hF2, hf2, hl2, hS2⟩ := SS.give_fr (unfB atoms.length rs m) [] EBool.mono hS (by decide) (Rows.bools _) (unfB_len m).symm
      replace hIn := hIn.mono EBool.mono hf2
      clear hS
      have hS := hS2
      clear hS2
      simp only [List.nil_append] at hS
      have hle := hle.trans hl2
      refine cw_exit ?_
      refine pq_exit ?_
      refine pq_exit ?_
      refine pq_in_exit ?_
      refine pq_then ?_
      refine cw_seq ?_
      refine cw_seq ?_
      refine cw_region ?_
      -- r13.0 t76 := load [25] t3
      refine ol_load rfl (op_loadN agg_25 rfl (by rfl) (fun w hw k u hk => (hw.bcell (i := 0) rfl).trans hk)) hS ?_
      -- r13.1 t77 := move  t1
      refine ol_pure rfl (op_move rfl) ?_
      -- r13.2 t78 := move  t9
      refine ol_pure rfl (op_move rfl) ?_
      -- r13.3 t79 := call f25 t76 t77 t78
      refine ol_step rfl (op_call_sc hS cf_25 rfl (calls_t (unf_is hP m) (L17_unfounded_c _ _ hS.hold _ _ atoms rs (h1.mono EAtom.mono hle) (h2.mono ERule.mono hle) hP _ _ m _ (h3.mono EInt.mono hle) hIn))) ?_
      clear hS
      rintro _ w ⟨rfl, hS⟩
      -- r13.4 t80 := not t79
      refine ol_pure rfl (op_not rfl) ?_
      -- r13.5 t81 := move  t80
      refine ol_pure rfl (op_move rfl) ?_
      -- r13.6 t82 := load [25] t3 ?5=False
      refine ol_guard_load rfl rfl rfl (op_loadN agg_25 rfl (by rfl) (fun w hw k u hk => (hw.bcell (i := 0) rfl).trans hk)) hS ?_
      -- r13.7 t83 := move  t1 ?5=False
      refine ol_guard_pure rfl rfl rfl (op_move rfl) ?_
      -- r13.8 t84 := move  t2 ?5=False
      refine ol_guard_pure rfl rfl rfl (op_move rfl) ?_
      -- r13.9 t85 := call f25 t82 t83 t84 ?5=False
      refine ol_guard_step rfl rfl rfl (op_call_sc hS cf_25 rfl (L17_unfounded_c _ _ hS.hold _ _ atoms rs (h1.mono EAtom.mono hle) (h2.mono ERule.mono hle) hP _ _ m _ (h3.mono EInt.mono hle) (hcut.mono EBool.mono hle))) ?_
      clear hS
      rintro _ w ⟨rfl, hS⟩
      -- r13.10 t86 := move  t85 ?5=False
      refine ol_guard_pure rfl rfl rfl (op_move rfl) ?_
      refine ol_split (fun h86 => ?_) (fun h86 => ?_)
      · skip
        try simp only [decide_eq_true_eq, decide_eq_false_iff_not, Bool.not_eq_true', Bool.not_eq_false', Bool.not_eq_eq_eq_not, Bool.not_true, Bool.not_false] at h86
        -- r13.11 t87 := move  t2 ?10=True
        refine ol_guard_pure rfl rfl rfl (op_move rfl) ?_
        -- r13.12 t88 := move  t9 ?10=True
        refine ol_guard_pure rfl rfl rfl (op_move rfl) ?_
        -- r13.13 t89 := call f23 t87 t88 ?10=True
        refine ol_guard_step rfl rfl rfl (op_call_sc hS cf_23 rfl (calls_t (unf_most hP hxn h86) (L17_below_c _ _ hS.hold _ _ _ _ (hcut.mono EBool.mono hle) hIn))) ?_
        clear hS
        rintro _ w ⟨rfl, hS⟩
        -- r13.14 t90 := not t89 ?10=True
        refine ol_guard_pure rfl rfl rfl (op_not rfl) ?_
        -- r13.15 t91 := pick  t86 t90 Cfalse ?5=False
        refine ol_guard_pure rfl rfl rfl (op_pick_t rfl rfl) ?_
        -- r13.16 t92 := pick  t81 Ctrue t91
        refine ol_pure rfl (op_pick_f rfl rfl) ?_
        refine ol_nil ?_
        refine pq_then ?_
        refine cw_cond_f rfl ?_
        refine cw_skip ?_
        refine pq_then ?_
        refine cw_seq ?_
        refine cw_region ?_
        -- r15.0 t93 := load [25] t3
        refine ol_load rfl (op_loadN agg_25 rfl (by rfl) (fun w hw k u hk => (hw.bcell (i := 0) rfl).trans hk)) hS ?_
        -- r15.1 t94 := call f18 t93
        refine ol_step rfl (op_call_fr hS cf_18 rfl (wfm_Model_c _ _ hS.hold EAtom.mono _ _ atoms rs (h1.mono EAtom.mono hle) (h2.mono ERule.mono hle) hP)) ?_
        clear hS
        rintro v94 w ⟨F94, G94, hR94, hF94, hf94, hl94, hS⟩
        obtain ⟨oW, cW, rfl, _, _⟩ := hR94.elimN (modelI_len _ _)
        have hle := hle.trans hl94
        replace hR94 := hR94.mono EInt.mono hf94
        -- r15.2 t95 := buildSlice [27, 0] 
        refine ol_step rfl (op_buildSlice (el := 3) (is := []) (xs := []) (sz := 1) (cs := []) hS rfl rfl (fun w => by kernel_rfl) rfl (by decide)) ?_
        clear hS
        rintro _ w ⟨o12, rfl, hS⟩
        -- r15.3 t11 := assign  t94
        refine ol_pure rfl (op_assign rfl) ?_
        -- r15.4 t12 := assign  t95
        refine ol_pure rfl (op_assign rfl) ?_
        refine ol_nil ?_
        refine pq_then ?_
        refine cw_seq ?_
        refine cw_seq ?_
        refine cw_region ?_
        -- r16.0 t13 := assign  C0
        refine ol_pure rfl (op_assign rfl) ?_
        refine ol_nil ?_
        refine pq_then ?_
        refine cw_block ?_
        refine cw_loop (fun e w n => ∃ i o12 l12 c12, e = [(3, .pointer (some ⟨b3, 0, none⟩)), (7, .bool true), (11, .slice oW atoms.length cW), (12, .slice o12 l12 c12), (13, .int .i64 (i : Nat))] ∧ i ≤ atoms.length ∧ n = atoms.length - i ∧ l12 = (falseI (modelI atoms.length rs) i).length ∧ SS G w0 G94 [.row o12 l12 c12 3 1 (((falseI (modelI atoms.length rs) i)).map (Value.int .i64)), .blk b3 25 [.slice oA atoms.length cA, .slice oR rs.length cR]] w) _ _ (by exact ⟨0, o12, 0, _, rfl, Nat.zero_le _, rfl, rfl, hS⟩) ((Sub.cons rfl (Sub.cons rfl (Sub.cons rfl (Sub.cons rfl (Sub.cons rfl Sub.nil)))))) ?_
        clear hS
        rintro e w n ⟨i, o12, l12, c12, rfl, hi, rfl, hl12, hS⟩
        refine cw_seq ?_
        refine cw_seq ?_
        refine cw_region ?_
        -- r17.0 t96 := move  t13
        refine ol_pure rfl (op_move rfl) ?_
        -- r17.1 t97 := move  t11
        refine ol_pure rfl (op_move rfl) ?_
        -- r17.2 t98 := call len t97
        refine ol_pure rfl (op_len sl_27 rfl rfl) ?_
        -- r17.3 t99 := lss t96 t98
        refine ol_pure rfl (op_lss rfl rfl) ?_
        refine ol_nil ?_
        refine pq_then ?_
        refine cw_cond rfl (fun h99 => ?_) (fun h99 => ?_)
        · skip
          try simp only [decide_eq_true_eq, decide_eq_false_iff_not, Bool.not_eq_true', Bool.not_eq_false', Bool.not_eq_eq_eq_not, Bool.not_true, Bool.not_false] at h99
          have hlt : i < atoms.length := by omega
          have hltm : i < (modelI atoms.length rs).length := by rw [modelI_len]; exact hlt
          obtain ⟨hoW, hcW, _⟩ := hR94.int hltm
          have hpl := pickI_len (fun i => decide ((modelI atoms.length rs)[i]? = some 0)) i
          rw [show pickI (fun i => decide ((modelI atoms.length rs)[i]? = some 0)) i = (falseI (modelI atoms.length rs) i) from rfl] at hpl
          have hgi : (modelI atoms.length rs)[i]? = some (modelI atoms.length rs)[i] := List.getElem?_eq_getElem hltm
          refine cw_skip ?_
          refine pq_then ?_
          refine cw_seq ?_
          refine cw_block ?_
          refine cw_seq ?_
          refine cw_region ?_
          -- r19.0 t102 := move  t11
          refine ol_pure rfl (op_move rfl) ?_
          -- r19.1 t103 := move  t13
          refine ol_pure rfl (op_move rfl) ?_
          -- r19.2 t104 := indexAddr [27] t102 t103
          refine ol_pure rfl (op_indexN sl_27 rfl rfl (by omega) (by assumption)) ?_
          -- r19.3 t105 := load [3] t104
          refine ol_load rfl (op_load1 one_3 rfl (fun w hw => hw.gcell hcW)) hS ?_
          -- r19.4 t106 := eql t105 C0
          refine ol_pure rfl (op_eql rfl rfl) ?_
          refine ol_nil ?_
          refine pq_then ?_
          refine cw_cond rfl (fun h106 => ?_) (fun h106 => ?_)
          · skip
            try simp only [decide_eq_true_eq, decide_eq_false_iff_not, Bool.not_eq_true', Bool.not_eq_false', Bool.not_eq_eq_eq_not, Bool.not_true, Bool.not_false] at h106
            refine cw_region ?_
            -- r20.0 t107 := move  t12
            refine ol_pure rfl (op_move rfl) ?_
            -- r20.1 t108 := move  t13
            refine ol_pure rfl (op_move rfl) ?_
            -- r20.2 t109 := buildSlice [27, 1] 0:t108
            refine ol_step rfl (op_buildSlice (el := 3) (is := [0]) (xs := [.tmp 108]) (sz := 1) (cs := [.int .i64 (i : Nat)]) hS rfl rfl (fun w => by kernel_rfl) rfl (by decide)) ?_
            clear hS
            rintro _ w ⟨s109, rfl, hS⟩
            -- r20.3 t110 := call append t107 t109
            refine ol_step rfl (op_append (j := 1) hS sl_27 el_3 rfl rfl rfl rfl rfl rfl (by decide) (hS.news (j := 0) rfl) (by simp [Value.oneCell']) (by omega) (by unfold maxLen; omega)) ?_
            clear hS
            rintro _ w ⟨o12n, c_o12n, rfl, hS⟩; (try simp only [List.nil_append, List.cons_append, List.set] at hS); replace hS := SS.drop [] hS; (try simp only [List.nil_append, List.cons_append] at hS)
            -- r20.4 t12 := assign  t110
            refine ol_pure rfl (op_assign rfl) ?_
            refine ol_nil ?_
            refine pq_in_normal ?_
            refine pq_then ?_
            refine cw_region ?_
            -- r18.0 t100 := move  t13
            refine ol_pure rfl (op_move rfl) ?_
            -- r18.1 t101 := add t100 C1
            refine ol_pure rfl (op_add rfl rfl (by omega) (by omega)) ?_
            -- r18.2 t13 := assign  t101
            refine ol_pure rfl (op_assign rfl) ?_
            refine ol_nil ?_
            -- end of round 2 h17f h37f h86t h99t h106t
            refine pq_loop _ _ (by exact (by have he : (falseI (modelI atoms.length rs) (i + 1)) = (falseI (modelI atoms.length rs) i) ++ [(i : Int)] := pickI_t (by rw [hgi, h106]; rfl); exact ⟨i + 1, o12n, l12 + 1, c_o12n, rfl, by omega, rfl, by rw [he]; simp [hl12], by rw [he]; simpa using hS⟩)) ((Sub.cons rfl (Sub.cons rfl (Sub.cons rfl (Sub.cons rfl (Sub.cons rfl Sub.nil)))))) (by omega)
          · skip
            try simp only [decide_eq_true_eq, decide_eq_false_iff_not, Bool.not_eq_true', Bool.not_eq_false', Bool.not_eq_eq_eq_not, Bool.not_true, Bool.not_false] at h106
            refine cw_skip ?_
            refine pq_in_normal ?_
            refine pq_then ?_
            refine cw_region ?_
            -- r18.0 t100 := move  t13
            refine ol_pure rfl (op_move rfl) ?_
            -- r18.1 t101 := add t100 C1
            refine ol_pure rfl (op_add rfl rfl (by omega) (by omega)) ?_
            -- r18.2 t13 := assign  t101
            refine ol_pure rfl (op_assign rfl) ?_
            refine ol_nil ?_
            -- end of round 2 h17f h37f h86t h99t h106f
            refine pq_loop _ _ (by exact (by have he : (falseI (modelI atoms.length rs) (i + 1)) = (falseI (modelI atoms.length rs) i) := pickI_f (by rw [hgi]; simpa using h106); exact ⟨i + 1, o12, l12, c12, rfl, by omega, rfl, by rw [he]; exact hl12, by rw [he]; exact hS⟩)) ((Sub.cons rfl (Sub.cons rfl (Sub.cons rfl (Sub.cons rfl (Sub.cons rfl Sub.nil)))))) (by omega)
        · skip
          try simp only [decide_eq_true_eq, decide_eq_false_iff_not, Bool.not_eq_true', Bool.not_eq_false', Bool.not_eq_eq_eq_not, Bool.not_true, Bool.not_false] at h99
          have hi0 : i = atoms.length := by omega
          subst hi0
          refine cw_exit ?_
          refine pq_exit ?_
          refine pq_exit ?_
          refine pq_in_exit ?_
          refine pq_then ?_
          refine cw_seq ?_
          refine cw_region ?_
          -- r21.0 t111 := load [25] t3
          refine ol_load rfl (op_loadN agg_25 rfl (by rfl) (fun w hw k u hk => (hw.bcell (i := 1) rfl).trans hk)) hS ?_
          -- r21.1 t112 := move  t11
          refine ol_pure rfl (op_move rfl) ?_
          -- r21.2 t113 := call f20 t111 t112
          refine ol_step rfl (op_call_fr hS cf_20 rfl (wfm_Unfounded_c _ _ hS.hold EAtom.mono _ _ atoms rs (h1.mono EAtom.mono hle) (h2.mono ERule.mono hle) hP _ (modelI atoms.length rs) hR94)) ?_
          clear hS
          rintro v113 w ⟨F113, G113, hR113, hF113, hf113, hl113, hS⟩
          -- r21.3 t114 := move  t12
          refine ol_pure rfl (op_move rfl) ?_
          -- r21.4 t115 := call f17 t113 t114
          have hlend := SS.lend [] hS (by decide) EInt.mono (Rows.of_map (xs := (falseI (modelI atoms.length rs) atoms.length)) (f := Value.int .i64) (E := EInt) (fun y hy => ⟨rfl, by have := pickI_range hy; omega⟩)) hl12
          refine ol_step rfl (op_call_sc hS cf_17 rfl (calls_t (by rw [unf_model hP]; simp) (R17_Ints_c (fullG _) _ (Holds.full _) _ _ (unfI atoms.length rs (modelI atoms.length rs)) ((falseI (modelI atoms.length rs) atoms.length)) ((hR113.mono EInt.mono hf113).mono EInt.mono hS.hold.le_full) hlend))) ?_
          clear hS
          rintro _ w ⟨rfl, hS⟩
          -- r21.5 t116 := move  t115
          refine ol_pure rfl (op_move rfl) ?_
          -- r21.6 t117 := move  t7 ?5=True
          refine ol_guard_pure rfl rfl rfl (op_move rfl) ?_
          -- r21.7 t118 := pick  t116 t117 Cfalse
          refine ol_pure rfl (op_pick_t rfl rfl) ?_
          -- r21.8 t6 := assign  t118
          refine ol_pure rfl (op_assign rfl) ?_
          refine ol_nil ?_
          refine pq_then ?_
          refine cw_ret ?_
          refine ret1 rfl rfl ?_
          -- ret4 h17f h37f h86t h99f
          exact hS.sc_b rfl
      · skip
        try simp only [decide_eq_true_eq, decide_eq_false_iff_not, Bool.not_eq_true', Bool.not_eq_false', Bool.not_eq_eq_eq_not, Bool.not_true, Bool.not_false] at h86
        refine ol_guard_no rfl rfl rfl rfl ?_
        refine ol_guard_no rfl rfl rfl rfl ?_
        refine ol_guard_no rfl rfl rfl rfl ?_
        refine ol_guard_no rfl rfl rfl rfl ?_
        -- r13.15 t91 := pick  t86 t90 Cfalse ?5=False
        refine ol_guard_pure rfl rfl rfl (op_pick_f rfl rfl) ?_
        -- r13.16 t92 := pick  t81 Ctrue t91
        refine ol_pure rfl (op_pick_f rfl rfl) ?_
        refine ol_nil ?_
        refine pq_then ?_
        refine cw_cond_f rfl ?_
        refine cw_skip ?_
        refine pq_then ?_
        refine cw_seq ?_
        refine cw_region ?_
        -- r15.0 t93 := load [25] t3
        refine ol_load rfl (op_loadN agg_25 rfl (by rfl) (fun w hw k u hk => (hw.bcell (i := 0) rfl).trans hk)) hS ?_
        -- r15.1 t94 := call f18 t93
        refine ol_step rfl (op_call_fr hS cf_18 rfl (wfm_Model_c _ _ hS.hold EAtom.mono _ _ atoms rs (h1.mono EAtom.mono hle) (h2.mono ERule.mono hle) hP)) ?_
        clear hS
        rintro v94 w ⟨F94, G94, hR94, hF94, hf94, hl94, hS⟩
        obtain ⟨oW, cW, rfl, _, _⟩ := hR94.elimN (modelI_len _ _)
        have hle := hle.trans hl94
        replace hR94 := hR94.mono EInt.mono hf94
        -- r15.2 t95 := buildSlice [27, 0] 
        refine ol_step rfl (op_buildSlice (el := 3) (is := []) (xs := []) (sz := 1) (cs := []) hS rfl rfl (fun w => by kernel_rfl) rfl (by decide)) ?_
        clear hS
        rintro _ w ⟨o12, rfl, hS⟩
        -- r15.3 t11 := assign  t94
        refine ol_pure rfl (op_assign rfl) ?_
        -- r15.4 t12 := assign  t95
        refine ol_pure rfl (op_assign rfl) ?_
        refine ol_nil ?_
        refine pq_then ?_
        refine cw_seq ?_
        refine cw_seq ?_
        refine cw_region ?_
        -- r16.0 t13 := assign  C0
        refine ol_pure rfl (op_assign rfl) ?_
        refine ol_nil ?_
        refine pq_then ?_
        refine cw_block ?_
        refine cw_loop (fun e w n => ∃ i o12 l12 c12, e = [(3, .pointer (some ⟨b3, 0, none⟩)), (7, .bool true), (11, .slice oW atoms.length cW), (12, .slice o12 l12 c12), (13, .int .i64 (i : Nat))] ∧ i ≤ atoms.length ∧ n = atoms.length - i ∧ l12 = (falseI (modelI atoms.length rs) i).length ∧ SS G w0 G94 [.row o12 l12 c12 3 1 (((falseI (modelI atoms.length rs) i)).map (Value.int .i64)), .blk b3 25 [.slice oA atoms.length cA, .slice oR rs.length cR]] w) _ _ (by exact ⟨0, o12, 0, _, rfl, Nat.zero_le _, rfl, rfl, hS⟩) ((Sub.cons rfl (Sub.cons rfl (Sub.cons rfl (Sub.cons rfl (Sub.cons rfl Sub.nil)))))) ?_
        clear hS
        rintro e w n ⟨i, o12, l12, c12, rfl, hi, rfl, hl12, hS⟩
        refine cw_seq ?_
        refine cw_seq ?_
        refine cw_region ?_
        -- r17.0 t96 := move  t13
        refine ol_pure rfl (op_move rfl) ?_
        -- r17.1 t97 := move  t11
        refine ol_pure rfl (op_move rfl) ?_
        -- r17.2 t98 := call len t97
        refine ol_pure rfl (op_len sl_27 rfl rfl) ?_
        -- r17.3 t99 := lss t96 t98
        refine ol_pure rfl (op_lss rfl rfl) ?_
        refine ol_nil ?_
        refine pq_then ?_
        refine cw_cond rfl (fun h99 => ?_) (fun h99 => ?_)
        · skip
          try simp only [decide_eq_true_eq, decide_eq_false_iff_not, Bool.not_eq_true', Bool.not_eq_false', Bool.not_eq_eq_eq_not, Bool.not_true, Bool.not_false] at h99
          have hlt : i < atoms.length := by omega
          have hltm : i < (modelI atoms.length rs).length := by rw [modelI_len]; exact hlt
          obtain ⟨hoW, hcW, _⟩ := hR94.int hltm
          have hpl := pickI_len (fun i => decide ((modelI atoms.length rs)[i]? = some 0)) i
          rw [show pickI (fun i => decide ((modelI atoms.length rs)[i]? = some 0)) i = (falseI (modelI atoms.length rs) i) from rfl] at hpl
          have hgi : (modelI atoms.length rs)[i]? = some (modelI atoms.length rs)[i] := List.getElem?_eq_getElem hltm
          refine cw_skip ?_
          refine pq_then ?_
          refine cw_seq ?_
          refine cw_block ?_
          refine cw_seq ?_
          refine cw_region ?_
          -- r19.0 t102 := move  t11
          refine ol_pure rfl (op_move rfl) ?_
          -- r19.1 t103 := move  t13
          refine ol_pure rfl (op_move rfl) ?_
          -- r19.2 t104 := indexAddr [27] t102 t103
          refine ol_pure rfl (op_indexN sl_27 rfl rfl (by omega) (by assumption)) ?_
          -- r19.3 t105 := load [3] t104
          refine ol_load rfl (op_load1 one_3 rfl (fun w hw => hw.gcell hcW)) hS ?_
          -- r19.4 t106 := eql t105 C0
          refine ol_pure rfl (op_eql rfl rfl) ?_
          refine ol_nil ?_
          refine pq_then ?_
          refine cw_cond rfl (fun h106 => ?_) (fun h106 => ?_)
          · skip
            try simp only [decide_eq_true_eq, decide_eq_false_iff_not, Bool.not_eq_true', Bool.not_eq_false', Bool.not_eq_eq_eq_not, Bool.not_true, Bool.not_false] at h106
            refine cw_region ?_
            -- r20.0 t107 := move  t12
            refine ol_pure rfl (op_move rfl) ?_
            -- r20.1 t108 := move  t13
            refine ol_pure rfl (op_move rfl) ?_
            -- r20.2 t109 := buildSlice [27, 1] 0:t108
            refine ol_step rfl (op_buildSlice (el := 3) (is := [0]) (xs := [.tmp 108]) (sz := 1) (cs := [.int .i64 (i : Nat)]) hS rfl rfl (fun w => by kernel_rfl) rfl (by decide)) ?_
            clear hS
            rintro _ w ⟨s109, rfl, hS⟩
            -- r20.3 t110 := call append t107 t109
            refine ol_step rfl (op_append (j := 1) hS sl_27 el_3 rfl rfl rfl rfl rfl rfl (by decide) (hS.news (j := 0) rfl) (by simp [Value.oneCell']) (by omega) (by unfold maxLen; omega)) ?_
            clear hS
            rintro _ w ⟨o12n, c_o12n, rfl, hS⟩; (try simp only [List.nil_append, List.cons_append, List.set] at hS); replace hS := SS.drop [] hS; (try simp only [List.nil_append, List.cons_append] at hS)
            -- r20.4 t12 := assign  t110
            refine ol_pure rfl (op_assign rfl) ?_
            refine ol_nil ?_
            refine pq_in_normal ?_
            refine pq_then ?_
            refine cw_region ?_
            -- r18.0 t100 := move  t13
            refine ol_pure rfl (op_move rfl) ?_
            -- r18.1 t101 := add t100 C1
            refine ol_pure rfl (op_add rfl rfl (by omega) (by omega)) ?_
            -- r18.2 t13 := assign  t101
            refine ol_pure rfl (op_assign rfl) ?_
            refine ol_nil ?_
            -- end of round 2 h17f h37f h86f h99t h106t
            refine pq_loop _ _ (by exact (by have he : (falseI (modelI atoms.length rs) (i + 1)) = (falseI (modelI atoms.length rs) i) ++ [(i : Int)] := pickI_t (by rw [hgi, h106]; rfl); exact ⟨i + 1, o12n, l12 + 1, c_o12n, rfl, by omega, rfl, by rw [he]; simp [hl12], by rw [he]; simpa using hS⟩)) ((Sub.cons rfl (Sub.cons rfl (Sub.cons rfl (Sub.cons rfl (Sub.cons rfl Sub.nil)))))) (by omega)
          · skip
            try simp only [decide_eq_true_eq, decide_eq_false_iff_not, Bool.not_eq_true', Bool.not_eq_false', Bool.not_eq_eq_eq_not, Bool.not_true, Bool.not_false] at h106
            refine cw_skip ?_
            refine pq_in_normal ?_
            refine pq_then ?_
            refine cw_region ?_
            -- r18.0 t100 := move  t13
            refine ol_pure rfl (op_move rfl) ?_
            -- r18.1 t101 := add t100 C1
            refine ol_pure rfl (op_add rfl rfl (by omega) (by omega)) ?_
            -- r18.2 t13 := assign  t101
            refine ol_pure rfl (op_assign rfl) ?_
            refine ol_nil ?_
            -- end of round 2 h17f h37f h86f h99t h106f
            refine pq_loop _ _ (by exact (by have he : (falseI (modelI atoms.length rs) (i + 1)) = (falseI (modelI atoms.length rs) i) := pickI_f (by rw [hgi]; simpa using h106); exact ⟨i + 1, o12, l12, c12, rfl, by omega, rfl, by rw [he]; exact hl12, by rw [he]; exact hS⟩)) ((Sub.cons rfl (Sub.cons rfl (Sub.cons rfl (Sub.cons rfl (Sub.cons rfl Sub.nil)))))) (by omega)
        · skip
          try simp only [decide_eq_true_eq, decide_eq_false_iff_not, Bool.not_eq_true', Bool.not_eq_false', Bool.not_eq_eq_eq_not, Bool.not_true, Bool.not_false] at h99
          have hi0 : i = atoms.length := by omega
          subst hi0
          refine cw_exit ?_
          refine pq_exit ?_
          refine pq_exit ?_
          refine pq_in_exit ?_
          refine pq_then ?_
          refine cw_seq ?_
          refine cw_region ?_
          -- r21.0 t111 := load [25] t3
          refine ol_load rfl (op_loadN agg_25 rfl (by rfl) (fun w hw k u hk => (hw.bcell (i := 1) rfl).trans hk)) hS ?_
          -- r21.1 t112 := move  t11
          refine ol_pure rfl (op_move rfl) ?_
          -- r21.2 t113 := call f20 t111 t112
          refine ol_step rfl (op_call_fr hS cf_20 rfl (wfm_Unfounded_c _ _ hS.hold EAtom.mono _ _ atoms rs (h1.mono EAtom.mono hle) (h2.mono ERule.mono hle) hP _ (modelI atoms.length rs) hR94)) ?_
          clear hS
          rintro v113 w ⟨F113, G113, hR113, hF113, hf113, hl113, hS⟩
          -- r21.3 t114 := move  t12
          refine ol_pure rfl (op_move rfl) ?_
          -- r21.4 t115 := call f17 t113 t114
          have hlend := SS.lend [] hS (by decide) EInt.mono (Rows.of_map (xs := (falseI (modelI atoms.length rs) atoms.length)) (f := Value.int .i64) (E := EInt) (fun y hy => ⟨rfl, by have := pickI_range hy; omega⟩)) hl12
          refine ol_step rfl (op_call_sc hS cf_17 rfl (calls_t (by rw [unf_model hP]; simp) (R17_Ints_c (fullG _) _ (Holds.full _) _ _ (unfI atoms.length rs (modelI atoms.length rs)) ((falseI (modelI atoms.length rs) atoms.length)) ((hR113.mono EInt.mono hf113).mono EInt.mono hS.hold.le_full) hlend))) ?_
          clear hS
          rintro _ w ⟨rfl, hS⟩
          -- r21.5 t116 := move  t115
          refine ol_pure rfl (op_move rfl) ?_
          -- r21.6 t117 := move  t7 ?5=True
          refine ol_guard_pure rfl rfl rfl (op_move rfl) ?_
          -- r21.7 t118 := pick  t116 t117 Cfalse
          refine ol_pure rfl (op_pick_t rfl rfl) ?_
          -- r21.8 t6 := assign  t118
          refine ol_pure rfl (op_assign rfl) ?_
          refine ol_nil ?_
          refine pq_then ?_
          refine cw_ret ?_
          refine ret1 rfl rfl ?_
          -- ret4 h17f h37f h86f h99f
          exact hS.sc_b rfl
end Go.Proofs.Ytegjmfcfjedfjaa.K
