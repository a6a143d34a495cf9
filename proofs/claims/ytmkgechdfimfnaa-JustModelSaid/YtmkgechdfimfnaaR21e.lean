/-
  The document for layer 21: the part that an atom needs; which steps hold.
  No condition but the premises that each theorem names.
-/
import Derived.Test.YtmkgechdfimfnaaR21d
namespace Go.Proofs.Ytmkgechdfimfnaa.K
open Go Go.RowKit
set_option linter.unusedVariables false
set_option linter.unusedSimpArgs false

open Pl

set_option maxRecDepth 100000 in
set_option maxHeartbeats 8000000 in

theorem R21_For_c (G : GH) (w0 : World) (hG : Holds G w0) {α : Type} {E : ER α} (hE : EMono E) (va vr : Value) (atoms : List α) (rs : List Rule) (h1 : RSl 1 E G va atoms) (h2 : RSl 3 ERule G vr rs) (hP : PrOk atoms.length rs) (vs vh : Value) (l : List Step) (hs : List Int) (h5 : RSl 2 EStep G vs l) (h6 : RSl 1 EInt G vh hs) (hL : LeanOk rs l) (hn : l.length ≤ 100000) (hNg : ∀ r ∈ rs, r.neg.length ≤ 1000) (hAt : ∀ s ∈ l, s.atoms.length ≤ 1000) (aa : Int) :
    Calls Try.prog 21 #[.agg #[va, vr], .agg #[vs, vh], .int .i64 aa] w0 (Rt G w0 (fun G v => ∃ us uh, v = .agg #[us, uh] ∧ RSl 2 EStep G us (forI atoms.length rs (l, hs) aa).1 ∧ RSl 1 EInt G uh (forI atoms.length rs (l, hs) aa).2)) := by
  obtain ⟨oA, cA, rfl, hlA, hmA⟩ := h1.elim
  obtain ⟨oR, cR, rfl, hlR, hmR⟩ := h2.elim
  have hle1 := h1.le
  have hle2 := h2.le
  have hPn := hP.n_le
  have hPm := hP.m_le
  obtain ⟨oP, cP, rfl, hlP, hmP⟩ := h5.elim
  have hPle := h5.le
  obtain ⟨oh, ch, rfl, _, _⟩ := h6.elim
  refine enter Try.func21 rfl (N := 90) rfl (Nat.le_of_ble_eq_true rfl) ?_
  have hS := SS.init hG
  refine cw_seq ?_
  refine cw_region ?_
  -- r0.0 t3 := box [26] t0
  refine ol_step rfl (op_box hS rfl rfl) ?_
  clear hS
  rintro _ w ⟨b3, rfl, hS⟩
  -- r0.1 t4 := box [34] t1
  refine ol_step rfl (op_box hS rfl rfl) ?_
  clear hS
  rintro _ w ⟨b4, rfl, hS⟩
  -- r0.2 t6 := alloc [34] 
  refine ol_step rfl (op_alloc hS el_34 rfl) ?_
  clear hS
  rintro _ w ⟨res, rfl, hS⟩
  refine ol_nil ?_
  refine pq_then ?_
  refine cw_seq ?_
  refine cw_seq ?_
  refine cw_region ?_
  -- r1.0 t13 := move  t2
  refine ol_pure rfl (op_move rfl) ?_
  -- r1.1 t14 := lss t13 C0
  refine ol_pure rfl (op_lss rfl rfl) ?_
  -- r1.2 t15 := move  t14
  refine ol_pure rfl (op_move rfl) ?_
  refine ol_split (fun h15 => ?_) (fun h15 => ?_)
  · skip
    try simp only [decide_eq_true_eq, decide_eq_false_iff_not, Bool.not_eq_true', Bool.not_eq_false', Bool.not_eq_eq_eq_not, Bool.not_true, Bool.not_false] at h15
    refine ol_guard_no rfl rfl rfl rfl ?_
    refine ol_guard_no rfl rfl rfl rfl ?_
    refine ol_guard_no rfl rfl rfl rfl ?_
    refine ol_guard_no rfl rfl rfl rfl ?_
    refine ol_guard_no rfl rfl rfl rfl ?_
    -- r1.8 t21 := pick  t15 Ctrue t20
    refine ol_pure rfl (op_pick_t rfl rfl) ?_
    refine ol_nil ?_
    refine pq_then ?_
    refine cw_cond_t rfl ?_
    refine cw_seq ?_
    refine cw_region ?_
    -- r2.0 t22 := build [34] 
    refine ol_pure rfl (op_build (is := []) (xs := []) (v := .agg #[.slice none 0 0, .slice none 0 0]) rfl rfl (fun w => by kernel_rfl)) ?_
    -- r2.1 _ := store [34] t6 t22
    refine ol_step0  (op_storeN (j := 0) hS sz_34 rfl rfl rfl rfl rfl (by simp [Value.oneCell'])) ?_
    clear hS
    rintro _ w hS; (try simp only [List.nil_append, List.cons_append, List.set] at hS)
    refine ol_nil ?_
    refine pq_then ?_
    refine cw_ret ?_
    refine pq_ret ?_
    refine retN rfl agg_34 rfl (by rfl) (fun k u hk => (hS.bcell (i := 0) rfl).trans hk) ?_
    -- ret1 h15t
    refine hS.rt _ ⟨_, _, rfl, ?_, ?_⟩ <;> rw [forI, if_pos (by omega)] <;> exact RSl.nil _
  · skip
    try simp only [decide_eq_true_eq, decide_eq_false_iff_not, Bool.not_eq_true', Bool.not_eq_false', Bool.not_eq_eq_eq_not, Bool.not_true, Bool.not_false] at h15
    -- r1.3 t16 := move  t2 ?2=False
    refine ol_guard_pure rfl rfl rfl (op_move rfl) ?_
    -- r1.4 t17 := fieldAddr [26, 0] t3 ?2=False
    refine ol_guard_pure rfl rfl rfl (op_fieldAddr fld_26_0 rfl) ?_
    -- r1.5 t18 := load [24] t17 ?2=False
    refine ol_guard_load rfl rfl rfl (op_load1 one_24 rfl (fun w hw => (hw.bcell (i := 2) rfl).trans rfl)) hS ?_
    -- r1.6 t19 := call len t18 ?2=False
    refine ol_guard_pure rfl rfl rfl (op_len sl_24 rfl rfl) ?_
    -- r1.7 t20 := geq t16 t19 ?2=False
    refine ol_guard_pure rfl rfl rfl (op_geq rfl rfl) ?_
    -- r1.8 t21 := pick  t15 Ctrue t20
    refine ol_pure rfl (op_pick_f rfl rfl) ?_
    refine ol_nil ?_
    refine pq_then ?_
    refine cw_cond rfl (fun h21 => ?_) (fun h21 => ?_)
    · skip
      try simp only [decide_eq_true_eq, decide_eq_false_iff_not, Bool.not_eq_true', Bool.not_eq_false', Bool.not_eq_eq_eq_not, Bool.not_true, Bool.not_false] at h21
      refine cw_seq ?_
      refine cw_region ?_
      -- r2.0 t22 := build [34] 
      refine ol_pure rfl (op_build (is := []) (xs := []) (v := .agg #[.slice none 0 0, .slice none 0 0]) rfl rfl (fun w => by kernel_rfl)) ?_
      -- r2.1 _ := store [34] t6 t22
      refine ol_step0  (op_storeN (j := 0) hS sz_34 rfl rfl rfl rfl rfl (by simp [Value.oneCell'])) ?_
      clear hS
      rintro _ w hS; (try simp only [List.nil_append, List.cons_append, List.set] at hS)
      refine ol_nil ?_
      refine pq_then ?_
      refine cw_ret ?_
      refine pq_ret ?_
      refine retN rfl agg_34 rfl (by rfl) (fun k u hk => (hS.bcell (i := 0) rfl).trans hk) ?_
      -- ret1 h15f h21t
      refine hS.rt _ ⟨_, _, rfl, ?_, ?_⟩ <;> rw [forI, if_pos (by omega)] <;> exact RSl.nil _
    · skip
      try simp only [decide_eq_true_eq, decide_eq_false_iff_not, Bool.not_eq_true', Bool.not_eq_false', Bool.not_eq_eq_eq_not, Bool.not_true, Bool.not_false] at h21
      have haa : 0 ≤ aa ∧ aa < atoms.length := by omega
      refine cw_skip ?_
      refine pq_then ?_
      refine cw_seq ?_
      refine cw_seq ?_
      refine cw_region ?_
      -- r3.0 t23 := load [34] t4
      refine ol_load rfl (op_loadN agg_34 rfl (by rfl) (fun w hw k u hk => (hw.bcell (i := 1) rfl).trans hk)) hS ?_
      -- r3.1 t24 := move  t2
      refine ol_pure rfl (op_move rfl) ?_
      -- r3.2 t25 := call f29 t23 t24
      refine ol_step rfl (op_call_sc hS cf_29 rfl (R21_By_c G _ hS.hold _ _ l h5 ⟨_, _, _, rfl⟩ aa)) ?_
      clear hS
      rintro _ w ⟨rfl, hS⟩
      -- r3.3 t26 := lss t25 C0
      refine ol_pure rfl (op_lss rfl rfl) ?_
      refine ol_nil ?_
      refine pq_then ?_
      refine cw_cond rfl (fun h26 => ?_) (fun h26 => ?_)
      · skip
        try simp only [decide_eq_true_eq, decide_eq_false_iff_not, Bool.not_eq_true', Bool.not_eq_false', Bool.not_eq_eq_eq_not, Bool.not_true, Bool.not_false] at h26
        refine cw_seq ?_
        refine cw_region ?_
        -- r4.0 t27 := load [34] t4
        refine ol_load rfl (op_loadN agg_34 rfl (by rfl) (fun w hw k u hk => (hw.bcell (i := 1) rfl).trans hk)) hS ?_
        -- r4.1 _ := store [34] t6 t27
        refine ol_step0  (op_storeN (j := 0) hS sz_34 rfl rfl rfl rfl rfl (by simp [Value.oneCell'])) ?_
        clear hS
        rintro _ w hS; (try simp only [List.nil_append, List.cons_append, List.set] at hS)
        refine ol_nil ?_
        refine pq_then ?_
        refine cw_ret ?_
        refine pq_ret ?_
        refine retN rfl agg_34 rfl (by rfl) (fun k u hk => (hS.bcell (i := 0) rfl).trans hk) ?_
        -- ret2 h15f h21f h26t
        refine hS.rt _ ⟨_, _, rfl, ?_, ?_⟩ <;> rw [forI, if_neg (by omega), if_pos (by omega)]
        · exact h5
        · exact h6
      · skip
        try simp only [decide_eq_true_eq, decide_eq_false_iff_not, Bool.not_eq_true', Bool.not_eq_false', Bool.not_eq_eq_eq_not, Bool.not_true, Bool.not_false] at h26
        have hfo : forI atoms.length rs (l, hs) aa = (partI l (needI atoms.length rs l aa), []) := by rw [forI, if_neg (by omega), if_neg (by omega)]
        obtain ⟨by0, hby0⟩ := Int.eq_ofNat_of_zero_le (show 0 ≤ byI l aa by omega)
        have hbyl := byI_len l aa
        refine cw_skip ?_
        refine pq_then ?_
        refine cw_seq ?_
        refine cw_region ?_
        -- r5.0 t28 := fieldAddr [34, 0] t4
        refine ol_pure rfl (op_fieldAddr fld_34_0 rfl) ?_
        -- r5.1 t29 := load [32] t28
        refine ol_load rfl (op_load1 one_32 rfl (fun w hw => (hw.bcell (i := 1) rfl).trans rfl)) hS ?_
        -- r5.2 t30 := call len t29
        refine ol_pure rfl (op_len sl_32 rfl rfl) ?_
        -- r5.3 t31 := makeSlice [49] t30 t30
        refine ol_step rfl (op_makeSlice (n := l.length) hS sl_49 el_4 rfl rfl rfl (by omega) (by unfold maxLen; omega)) ?_
        clear hS
        rintro _ w ⟨on, rfl, hS⟩
        -- r5.4 t7 := assign  t31
        refine ol_pure rfl (op_assign rfl) ?_
        refine ol_nil ?_
        refine pq_then ?_
        refine cw_seq ?_
        rw [show List.replicate l.length (Value.bool false) = (List.replicate l.length false).map Value.bool from by rw [List.map_replicate]] at hS
        have hnl : (List.replicate l.length false).length = l.length := by simp
        have hz0 : ((List.replicate l.length false).map Value.bool)[by0 * 1]? = some (.bool false) := by rw [List.map_replicate, Nat.mul_one, List.getElem?_replicate, if_pos (by omega)]
        have hoN0 := (hS.news (j := 0) rfl _ _ hz0).1
        refine cw_region ?_
        -- r6.0 t32 := move  t7
        refine ol_pure rfl (op_move rfl) ?_
        -- r6.1 t33 := load [34] t4
        refine ol_load rfl (op_loadN agg_34 rfl (by rfl) (fun w hw k u hk => (hw.bcell (i := 2) rfl).trans hk)) hS ?_
        -- r6.2 t34 := move  t2
        refine ol_pure rfl (op_move rfl) ?_
        -- r6.3 t35 := call f29 t33 t34
        refine ol_step rfl (op_call_sc hS cf_29 rfl (R21_By_c G _ hS.hold _ _ l h5 ⟨_, _, _, rfl⟩ aa)) ?_
        clear hS
        rintro _ w ⟨rfl, hS⟩
        -- r6.4 t36 := indexAddr [49] t32 t35
        refine ol_pure rfl (op_val (op_indexAddr sl_49 rfl rfl (by omega) (by omega) hoN0) (v' := .pointer (some (elA on (by0 * 1)))) (by rw [hby0]; rfl)) ?_
        -- r6.5 _ := store [4] t36 Ctrue
        refine ol_step0  (op_storeR (j := 0) (k := by0 * 1) hS sz_4 rfl rfl rfl rfl (by simp; omega)) ?_
        clear hS
        rintro _ w hS; (try simp only [List.nil_append, List.cons_append, List.set] at hS)
        refine ol_nil ?_
        refine pq_then ?_
        refine cw_seq ?_
        refine cw_seq ?_
        refine cw_region ?_
        -- r7.0 t37 := fieldAddr [34, 0] t4
        refine ol_pure rfl (op_fieldAddr fld_34_0 rfl) ?_
        -- r7.1 t38 := load [32] t37
        refine ol_load rfl (op_load1 one_32 rfl (fun w hw => (hw.bcell (i := 2) rfl).trans rfl)) hS ?_
        -- r7.2 t39 := call len t38
        refine ol_pure rfl (op_len sl_32 rfl rfl) ?_
        -- r7.3 t40 := sub t39 C1
        refine ol_pure rfl (op_sub rfl rfl (by omega) (by omega)) ?_
        -- r7.4 t8 := assign  t40
        refine ol_pure rfl (op_assign rfl) ?_
        refine ol_nil ?_
        refine pq_then ?_
        refine cw_block ?_
        refine cw_loop (fun e w n => ∃ (k : Nat) (nd : List Bool) (Gk : GH), e = [(3, .pointer (some ⟨b3, 0, none⟩)), (4, .pointer (some ⟨b4, 0, none⟩)), (6, .pointer (some ⟨res, 0, none⟩)), (7, .slice on l.length l.length), (8, .int .i64 ((k : Nat) - 1))] ∧ k ≤ l.length ∧ k = n ∧ nd.length = l.length ∧ needI atoms.length rs l aa = forN rs l (knownI atoms.length l) k nd ∧ Le G Gk ∧ SS G w0 Gk [.row on l.length l.length 4 1 (nd.map Value.bool), .blk res 34 [.slice none 0 0, .slice none 0 0], .blk b4 34 [.slice oP l.length cP, .slice oh hs.length ch], .blk b3 26 [.slice oA atoms.length cA, .slice oR rs.length cR]] w) _ _ (by exact ⟨l.length, markI l (List.replicate l.length false) [aa], G, rfl, Nat.le_refl _, rfl, by rw [markI_len]; exact hnl, rfl, Le.refl _, by rw [show markI l (List.replicate l.length false) [aa] = (List.replicate l.length false).set by0 true from by show (List.replicate l.length false).set (byI l aa).toNat true = _; rw [hby0]; rfl, List.map_set]; rw [Nat.mul_one] at hS; exact hS⟩) ((Sub.cons rfl (Sub.cons rfl (Sub.cons rfl (Sub.cons rfl (Sub.cons rfl Sub.nil)))))) ?_
        clear hnl
        clear hS
        rintro e w n ⟨k, nd, Gk, rfl, hk, rfl, hnl, hne, hlk, hS⟩
        refine cw_seq ?_
        refine cw_seq ?_
        refine cw_region ?_
        -- r8.0 t41 := move  t8
        refine ol_pure rfl (op_move rfl) ?_
        -- r8.1 t42 := geq t41 C0
        refine ol_pure rfl (op_geq rfl rfl) ?_
        refine ol_nil ?_
        refine pq_then ?_
        refine cw_cond rfl (fun h42 => ?_) (fun h42 => ?_)
        · skip
          try simp only [decide_eq_true_eq, decide_eq_false_iff_not, Bool.not_eq_true', Bool.not_eq_false', Bool.not_eq_eq_eq_not, Bool.not_true, Bool.not_false] at h42
          obtain ⟨i, rfl⟩ : ∃ i, k = i + 1 := ⟨k - 1, by omega⟩
          rw [show ((i + 1 : Nat) : Int) - 1 = (i : Nat) from by omega]
          have hlt : i < l.length := by omega
          have hcm : (nd.map Value.bool)[i * 1]? = some (.bool nd[i]) := by simp [show i < nd.length by omega]
          have hoN := (hS.news (j := 0) rfl _ _ hcm).1
          have hgd : nd.getD i false = nd[i] := by simp [show i < nd.length by omega]
          refine cw_skip ?_
          refine pq_then ?_
          refine cw_seq ?_
          refine cw_block ?_
          refine cw_seq ?_
          refine cw_seq ?_
          refine cw_region ?_
          -- r10.0 t45 := move  t7
          refine ol_pure rfl (op_move rfl) ?_
          -- r10.1 t46 := move  t8
          refine ol_pure rfl (op_move rfl) ?_
          -- r10.2 t47 := indexAddr [49] t45 t46
          refine ol_pure rfl (op_indexN sl_49 rfl rfl (by omega) hoN) ?_
          -- r10.3 t48 := load [4] t47
          refine ol_load rfl (op_load1 one_4 rfl (fun w hw => hw.rcell (i := 0) rfl hcm)) hS ?_
          -- r10.4 t49 := not t48
          refine ol_pure rfl (op_not rfl) ?_
          refine ol_nil ?_
          refine pq_then ?_
          refine cw_cond rfl (fun h49 => ?_) (fun h49 => ?_)
          · skip
            try simp only [decide_eq_true_eq, decide_eq_false_iff_not, Bool.not_eq_true', Bool.not_eq_false', Bool.not_eq_eq_eq_not, Bool.not_true, Bool.not_false] at h49
            have hskip := forN_skip (rs := rs) (m := (knownI atoms.length l)) hlt (hgd.trans h49)
            refine cw_exit ?_
            refine pq_exit ?_
            refine pq_in_exit ?_
            refine pq_then ?_
            refine cw_region ?_
            -- r9.0 t43 := move  t8
            refine ol_pure rfl (op_move rfl) ?_
            -- r9.1 t44 := sub t43 C1
            refine ol_pure rfl (op_sub rfl rfl (by omega) (by omega)) ?_
            -- r9.2 t8 := assign  t44
            refine ol_pure rfl (op_assign rfl) ?_
            refine ol_nil ?_
            -- end of round 1 h15f h21f h26f h42t h49t
            refine pq_loop _ _ (by exact ⟨i, nd, Gk, rfl, by omega, rfl, hnl, by rw [hne, hskip], hlk, hS⟩) ((Sub.cons rfl (Sub.cons rfl (Sub.cons rfl (Sub.cons rfl (Sub.cons rfl Sub.nil)))))) (by omega)
          · skip
            try simp only [decide_eq_true_eq, decide_eq_false_iff_not, Bool.not_eq_true', Bool.not_eq_false', Bool.not_eq_eq_eq_not, Bool.not_true, Bool.not_false] at h49
            have hdo := forN_do (rs := rs) (m := (knownI atoms.length l)) hlt (hgd.trans h49)
            refine cw_skip ?_
            refine pq_then ?_
            refine cw_seq ?_
            refine cw_region ?_
            -- r11.0 t50 := load [26] t3
            refine ol_load rfl (op_loadN agg_26 rfl (by rfl) (fun w hw k u hk => (hw.bcell (i := 3) rfl).trans hk)) hS ?_
            -- r11.1 t51 := load [34] t4
            refine ol_load rfl (op_loadN agg_34 rfl (by rfl) (fun w hw k u hk => (hw.bcell (i := 2) rfl).trans hk)) hS ?_
            -- r11.2 t52 := move  t8
            refine ol_pure rfl (op_move rfl) ?_
            -- r11.3 t53 := call f53 t50 t51 t52
            refine ol_step rfl (op_call_fr hS cf_53 rfl (R21_leans_c _ _ hS.hold hE _ _ atoms rs (h1.mono hE hlk) (h2.mono ERule.mono hlk) hP _ _ l hs (h5.mono EStep.mono hlk) (h6.mono EInt.mono hlk) i hlt hL hNg hAt)) ?_
            clear hS
            rintro v53 w ⟨F53, Gl, hR53, hF53, hf53, hl53, hS⟩
            obtain ⟨o53, c53, rfl, _, _⟩ := hR53.elim
            have hLn := hR53.mono EInt.mono hf53
            have hLle := hLn.le
            -- r11.4 t9 := assign  t53
            refine ol_pure rfl (op_assign rfl) ?_
            refine ol_nil ?_
            refine pq_then ?_
            refine cw_seq ?_
            refine cw_region ?_
            -- r12.0 t10 := assign  C0
            refine ol_pure rfl (op_assign rfl) ?_
            refine ol_nil ?_
            refine pq_then ?_
            refine cw_block ?_
            refine cw_loop (fun e w n => ∃ (j : Nat), e = [(3, .pointer (some ⟨b3, 0, none⟩)), (4, .pointer (some ⟨b4, 0, none⟩)), (6, .pointer (some ⟨res, 0, none⟩)), (7, .slice on l.length l.length), (8, .int .i64 (i : Nat)), (9, .slice o53 (leansI rs l (knownI atoms.length l) i l[i]).length c53), (10, .int .i64 (j : Nat))] ∧ j ≤ (leansI rs l (knownI atoms.length l) i l[i]).length ∧ n = (leansI rs l (knownI atoms.length l) i l[i]).length - j ∧ SS G w0 Gl [.row on l.length l.length 4 1 ((markI l nd ((leansI rs l (knownI atoms.length l) i l[i]).take j)).map Value.bool), .blk res 34 [.slice none 0 0, .slice none 0 0], .blk b4 34 [.slice oP l.length cP, .slice oh hs.length ch], .blk b3 26 [.slice oA atoms.length cA, .slice oR rs.length cR]] w) _ _ (by exact ⟨0, rfl, Nat.zero_le _, rfl, hS⟩) ((Sub.cons rfl (Sub.cons rfl (Sub.cons rfl (Sub.cons rfl (Sub.cons rfl (Sub.cons rfl (Sub.cons rfl Sub.nil)))))))) ?_
            clear hS
            rintro e w n ⟨j, rfl, hj, rfl, hS⟩
            refine cw_seq ?_
            refine cw_seq ?_
            refine cw_region ?_
            -- r13.0 t54 := move  t10
            refine ol_pure rfl (op_move rfl) ?_
            -- r13.1 t55 := move  t9
            refine ol_pure rfl (op_move rfl) ?_
            -- r13.2 t56 := call len t55
            refine ol_pure rfl (op_len sl_28 rfl rfl) ?_
            -- r13.3 t57 := lss t54 t56
            refine ol_pure rfl (op_lss rfl rfl) ?_
            refine ol_nil ?_
            refine pq_then ?_
            refine cw_cond rfl (fun h57 => ?_) (fun h57 => ?_)
            · skip
              try simp only [decide_eq_true_eq, decide_eq_false_iff_not, Bool.not_eq_true', Bool.not_eq_false', Bool.not_eq_eq_eq_not, Bool.not_true, Bool.not_false] at h57
              have hjl : j < (leansI rs l (knownI atoms.length l) i l[i]).length := by omega
              obtain ⟨hoL, hcL, hbL⟩ := hLn.int hjl
              have hlt2 := leans_told (m := (knownI atoms.length l)) hL hlt (List.getElem_mem hjl)
              obtain ⟨y, hy⟩ := Int.eq_ofNat_of_zero_le hlt2
              have hyl := byI_len l (leansI rs l (knownI atoms.length l) i l[i])[j]
              have hcm2 : ((markI l nd ((leansI rs l (knownI atoms.length l) i l[i]).take j)).map Value.bool)[y * 1]? = some (.bool ((markI l nd ((leansI rs l (knownI atoms.length l) i l[i]).take j)).getD y false)) := by
                have : y < (markI l nd ((leansI rs l (knownI atoms.length l) i l[i]).take j)).length := by rw [markI_len]; omega
                simp [this]
              have hoY := (hS.news (j := 0) rfl _ _ hcm2).1
              refine cw_skip ?_
              refine pq_then ?_
              refine cw_seq ?_
              refine cw_block ?_
              replace hS := hS.perm (List.perm_append_comm (l₁ := [_, _]) (l₂ := [_, _]))
              (try simp only [List.cons_append, List.nil_append] at hS)
              refine al_start' hS (hS.take 1) (by kernel_rfl) rfl (fun w hS hT => ?_)
              -- r15.0 t60 := move  t7
              refine al_take (i := 0) rfl (by kernel_rfl) (by kernel_rfl) (by kernel_rfl) rfl (fun _ _ _ h => h) (op_move rfl) rfl ?_
              -- r15.1 t61 := load [34] t4
              refine al_load (i := 1) rfl (by kernel_rfl) (by kernel_rfl) (by kernel_rfl) rfl (fun _ _ _ h => h) (by exact op_loadN agg_34 rfl (by rfl) (fun w hw k u hk => (hw.bcell (i := 0) rfl).trans hk)) rfl hT ?_
              -- r15.2 t62 := move  t9
              refine al_take (i := 2) rfl (by kernel_rfl) (by kernel_rfl) (by kernel_rfl) rfl (fun _ _ _ h => h) (op_move rfl) rfl ?_
              -- r15.3 t63 := move  t10
              refine al_take (i := 3) rfl (by kernel_rfl) (by kernel_rfl) (by kernel_rfl) rfl (fun _ _ _ h => h) (op_move rfl) rfl ?_
              -- r15.4 t64 := indexAddr [28] t62 t63
              refine al_take (i := 4) rfl (by kernel_rfl) (by kernel_rfl) (by kernel_rfl) rfl (fun _ _ _ h => h) (op_indexN sl_28 rfl rfl (by omega) hoL) rfl ?_
              -- r15.5 t65 := load [3] t64
              refine al_load (i := 5) rfl (by kernel_rfl) (by kernel_rfl) (by kernel_rfl) rfl (fun _ _ _ h => h) (by exact op_load1 one_3 rfl (fun w hw => hw.gcell hcL)) rfl hT ?_
              refine al_step (i := 6) rfl (by kernel_rfl) rfl (op_call_sc hS cf_29 rfl (R21_By_c Gl _ hS.hold _ _ l ((h5.mono EStep.mono hlk).mono EStep.mono hl53) ⟨_, _, _, rfl⟩ (leansI rs l (knownI atoms.length l) i l[i])[j])) ?_
              clear hS
              rintro _ w ⟨rfl, hS⟩
              refine ⟨no_need (by kernel_rfl), ?_⟩
              -- r15.7 t67 := indexAddr [49] t60 t66
              refine al_take (i := 7) rfl (by kernel_rfl) (by kernel_rfl) (by kernel_rfl) rfl (fun _ _ _ h => h) (op_val (op_indexAddr (n := l.length) (i := byI l (leansI rs l (knownI atoms.length l) i l[i])[j]) sl_49 rfl rfl (by omega) (by omega) hoY) (v' := .pointer (some (elA on (y * 1)))) (by rw [hy]; rfl)) rfl ?_
              refine al_step0 (i := 8) rfl (by kernel_rfl) (op_storeR (j := 2) (k := y * 1) hS sz_4 rfl rfl rfl rfl (by simp [markI_len]; omega)) ?_
              clear hS
              rintro _ w hS; (try simp only [List.nil_append, List.cons_append, List.set] at hS)
              replace hS := hS.perm (List.perm_append_comm (l₁ := [_, _]) (l₂ := [_, _]))
              (try simp only [List.cons_append, List.nil_append] at hS)
              refine ⟨no_need (by kernel_rfl), ?_⟩
              refine al_done (by kernel_rfl) ?_
              refine pq_in_normal ?_
              refine pq_then ?_
              refine cw_region ?_
              -- r14.0 t58 := move  t10
              refine ol_pure rfl (op_move rfl) ?_
              -- r14.1 t59 := add t58 C1
              refine ol_pure rfl (op_add rfl rfl (by omega) (by omega)) ?_
              -- r14.2 t10 := assign  t59
              refine ol_pure rfl (op_assign rfl) ?_
              refine ol_nil ?_
              -- end of round 2 h15f h21f h26f h42t h49f h57t
              refine pq_loop _ _ (by exact ⟨j + 1, rfl, by omega, rfl, by rw [markI_succ _ _ _ hjl, hy, List.map_set]; rw [Nat.mul_one] at hS; exact hS⟩) ((Sub.cons rfl (Sub.cons rfl (Sub.cons rfl (Sub.cons rfl (Sub.cons rfl (Sub.cons rfl (Sub.cons rfl Sub.nil)))))))) (by omega)
            · skip
              try simp only [decide_eq_true_eq, decide_eq_false_iff_not, Bool.not_eq_true', Bool.not_eq_false', Bool.not_eq_eq_eq_not, Bool.not_true, Bool.not_false] at h57
              rw [List.take_of_length_le (show (leansI rs l (knownI atoms.length l) i l[i]).length ≤ j by omega)] at hS
              refine cw_exit ?_
              refine pq_exit ?_
              refine pq_exit ?_
              refine pq_in_exit ?_
              refine pq_in_normal ?_
              refine pq_then ?_
              refine cw_region ?_
              -- r9.0 t43 := move  t8
              refine ol_pure rfl (op_move rfl) ?_
              -- r9.1 t44 := sub t43 C1
              refine ol_pure rfl (op_sub rfl rfl (by omega) (by omega)) ?_
              -- r9.2 t8 := assign  t44
              refine ol_pure rfl (op_assign rfl) ?_
              refine ol_nil ?_
              -- end of round 1 h15f h21f h26f h42t h49f h57f
              refine pq_loop _ _ (by exact ⟨i, _, Gl, rfl, by omega, rfl, by rw [markI_len]; exact hnl, by rw [hne, hdo], hlk.trans hl53, hS⟩) ((Sub.cons rfl (Sub.cons rfl (Sub.cons rfl (Sub.cons rfl (Sub.cons rfl Sub.nil)))))) (by omega)
        · skip
          try simp only [decide_eq_true_eq, decide_eq_false_iff_not, Bool.not_eq_true', Bool.not_eq_false', Bool.not_eq_eq_eq_not, Bool.not_true, Bool.not_false] at h42
          refine cw_exit ?_
          refine pq_exit ?_
          refine pq_exit ?_
          refine pq_in_exit ?_
          refine pq_then ?_
          refine cw_seq ?_
          refine cw_region ?_
          -- r16.0 t68 := build [34] 
          refine ol_pure rfl (op_build (is := []) (xs := []) (v := .agg #[.slice none 0 0, .slice none 0 0]) rfl rfl (fun w => by kernel_rfl)) ?_
          -- r16.1 t11 := alloc [34] 
          refine ol_step rfl (op_alloc hS el_34 rfl) ?_
          clear hS
          rintro _ w ⟨b11, rfl, hS⟩
          -- r16.2 _ := store [34] t11 t68
          refine ol_step0  (op_storeN (j := 0) hS sz_34 rfl rfl rfl rfl rfl (by simp [Value.oneCell'])) ?_
          clear hS
          rintro _ w hS; (try simp only [List.nil_append, List.cons_append, List.set] at hS)
          refine ol_nil ?_
          refine pq_then ?_
          refine cw_seq ?_
          refine cw_seq ?_
          refine cw_region ?_
          -- r17.0 t12 := assign  C0
          refine ol_pure rfl (op_assign rfl) ?_
          refine ol_nil ?_
          refine pq_then ?_
          refine cw_block ?_
          replace hS := SS.ins [_] hS 37 2
          replace hS := hS.perm (List.perm_middle (l₁ := [_, _, _, _]))
          (try simp only [List.cons_append, List.nil_append] at hS)
          refine cw_loop (fun e w n => ∃ (i : Nat) (os : Option Addr) (cs : Nat) (us : List Value), e = [(4, .pointer (some ⟨b4, 0, none⟩)), (6, .pointer (some ⟨res, 0, none⟩)), (7, .slice on l.length l.length), (11, .pointer (some ⟨b11, 0, none⟩)), (12, .int .i64 (i : Nat))] ∧ i ≤ l.length ∧ n = l.length - i ∧ Rows 2 EStep Gk us (partI (l.take i) (nd.take i)) ∧ SS G w0 Gk [.blk b4 34 [.slice oP l.length cP, .slice oh hs.length ch], .blk b11 34 [.slice os (partI (l.take i) (nd.take i)).length cs, .slice none 0 0], .row os (partI (l.take i) (nd.take i)).length cs 37 2 us, .row on l.length l.length 4 1 (nd.map Value.bool), .blk res 34 [.slice none 0 0, .slice none 0 0], .blk b3 26 [.slice oA atoms.length cA, .slice oR rs.length cR]] w) _ _ (by exact ⟨0, none, 0, [], rfl, Nat.zero_le _, rfl, Rows.nil _, hS⟩) ((Sub.cons rfl (Sub.cons rfl (Sub.cons rfl (Sub.cons rfl (Sub.cons rfl Sub.nil)))))) ?_
          clear hS
          rintro e w n ⟨i, os, cs, us, rfl, hi, rfl, hus, hS⟩
          refine cw_seq ?_
          refine cw_seq ?_
          refine cw_region ?_
          -- r18.0 t69 := move  t12
          refine ol_pure rfl (op_move rfl) ?_
          -- r18.1 t70 := move  t7
          refine ol_pure rfl (op_move rfl) ?_
          -- r18.2 t71 := call len t70
          refine ol_pure rfl (op_len sl_49 rfl rfl) ?_
          -- r18.3 t72 := lss t69 t71
          refine ol_pure rfl (op_lss rfl rfl) ?_
          refine ol_nil ?_
          refine pq_then ?_
          refine cw_cond rfl (fun h72 => ?_) (fun h72 => ?_)
          · skip
            try simp only [decide_eq_true_eq, decide_eq_false_iff_not, Bool.not_eq_true', Bool.not_eq_false', Bool.not_eq_eq_eq_not, Bool.not_true, Bool.not_false] at h72
            have hlt : i < l.length := by omega
            obtain ⟨hoP, _, _, ⟨vk, rfl, hvk, hrk⟩, hcells⟩ := h5.el hlt
            obtain ⟨ov, cv, rfl, _, _⟩ := hvk.elim
            have hndl : i < nd.length := by omega
            have hcm : (nd.map Value.bool)[i * 1]? = some (.bool nd[i]) := by simp [hndl]
            have hoN := (hS.news (j := 3) rfl _ _ hcm).1
            have hps := partI_succ hlt hndl
            have hpl := partI_le (l.take i) (nd.take i)
            simp only [List.length_take] at hpl
            refine cw_skip ?_
            refine pq_then ?_
            refine cw_seq ?_
            refine cw_block ?_
            refine cw_seq ?_
            refine cw_region ?_
            -- r20.0 t75 := move  t7
            refine ol_pure rfl (op_move rfl) ?_
            -- r20.1 t76 := move  t12
            refine ol_pure rfl (op_move rfl) ?_
            -- r20.2 t77 := indexAddr [49] t75 t76
            refine ol_pure rfl (op_indexN sl_49 rfl rfl (by omega) hoN) ?_
            -- r20.3 t78 := load [4] t77
            refine ol_load rfl (op_load1 one_4 rfl (fun w hw => hw.rcell (i := 3) rfl hcm)) hS ?_
            refine ol_nil ?_
            refine pq_then ?_
            refine cw_cond rfl (fun h78 => ?_) (fun h78 => ?_)
            · skip
              try simp only [decide_eq_true_eq, decide_eq_false_iff_not, Bool.not_eq_true', Bool.not_eq_false', Bool.not_eq_eq_eq_not, Bool.not_true, Bool.not_false] at h78
              refine al_start' hS (hS.take 2) (by kernel_rfl) rfl (fun w hS hT => ?_)
              -- r21.0 t79 := fieldAddr [34, 0] t11
              refine al_take (i := 0) rfl (by kernel_rfl) (by kernel_rfl) (by kernel_rfl) rfl (fun _ _ _ h => h) (op_fieldAddr fld_34_0 rfl) rfl ?_
              -- r21.1 t80 := load [32] t79
              refine al_load (i := 1) rfl (by kernel_rfl) (by kernel_rfl) (by kernel_rfl) rfl (fun _ _ _ h => h) (by exact op_load1 one_32 rfl (fun w hw => (hw.bcell (i := 1) rfl).trans rfl)) rfl hT ?_
              -- r21.2 t81 := fieldAddr [34, 0] t4
              refine al_take (i := 2) rfl (by kernel_rfl) (by kernel_rfl) (by kernel_rfl) rfl (fun _ _ _ h => h) (op_fieldAddr fld_34_0 rfl) rfl ?_
              -- r21.3 t82 := load [32] t81
              refine al_load (i := 3) rfl (by kernel_rfl) (by kernel_rfl) (by kernel_rfl) rfl (fun _ _ _ h => h) (by exact op_load1 one_32 rfl (fun w hw => (hw.bcell (i := 0) rfl).trans rfl)) rfl hT ?_
              -- r21.4 t83 := move  t12
              refine al_take (i := 4) rfl (by kernel_rfl) (by kernel_rfl) (by kernel_rfl) rfl (fun _ _ _ h => h) (op_move rfl) rfl ?_
              -- r21.5 t84 := indexAddr [32] t82 t83
              refine al_take (i := 5) rfl (by kernel_rfl) (by kernel_rfl) (by kernel_rfl) rfl (fun _ _ _ h => h) (op_indexN sl_32 rfl rfl (by omega) hoP) rfl ?_
              -- r21.6 t85 := load [37] t84
              refine al_load (i := 6) rfl (by kernel_rfl) (by kernel_rfl) (by kernel_rfl) rfl (fun _ _ _ h => h) (by exact op_loadN agg_37 rfl (by rfl) (fun w hw k u hk => hw.gcell (hlk.cell (hcells _ u hk)))) rfl hT ?_
              refine al_step (i := 7) rfl (by kernel_rfl) rfl (op_buildSlice (el := 37) (is := [0]) (xs := [.tmp 85]) (sz := 2) (cs := [.int .i64 l[i].rule, .slice ov l[i].atoms.length cv]) hS rfl rfl (fun w => by kernel_rfl) rfl (by decide)) ?_
              clear hS
              rintro _ w ⟨s86, rfl, hS⟩
              have hT := hT.back hS (by first | exact Le.refl _ | assumption) (fun x hx => by try simp only [List.take_succ_cons, List.take_zero, List.mem_cons, List.not_mem_nil, or_false] at hx; (rcases hx with rfl | rfl) <;> simp)
              refine ⟨fun _ _ => hT, ?_⟩
              refine al_step (i := 8) rfl (by kernel_rfl) rfl (op_append (j := 3) hS sl_32 el_37 rfl rfl rfl rfl rfl rfl (by decide) (hS.news (j := 0) rfl) (by simp [Value.oneCell']) (by omega) (by unfold maxLen; omega)) ?_
              clear hS
              rintro _ w ⟨osn, c_osn, rfl, hS⟩; (try simp only [List.nil_append, List.cons_append, List.set] at hS); replace hS := SS.drop [] hS; (try simp only [List.nil_append, List.cons_append] at hS)
              have hT := hT.back hS (by first | exact Le.refl _ | assumption) (fun x hx => by try simp only [List.take_succ_cons, List.take_zero, List.mem_cons, List.not_mem_nil, or_false] at hx; (rcases hx with rfl | rfl) <;> simp)
              refine ⟨fun _ _ => hT, ?_⟩
              -- r21.9 t88 := fieldAddr [34, 0] t11
              refine al_take (i := 9) rfl (by kernel_rfl) (by kernel_rfl) (by kernel_rfl) rfl (fun _ _ _ h => h) (op_fieldAddr fld_34_0 rfl) rfl ?_
              refine al_step0 (i := 10) rfl (by kernel_rfl) (op_storeB (j := 1) (k := 0) hS sz_32 rfl rfl rfl rfl (by simp)) ?_
              clear hS
              rintro _ w hS; (try simp only [List.nil_append, List.cons_append, List.set] at hS)
              refine ⟨no_need (by kernel_rfl), ?_⟩
              refine al_done (by kernel_rfl) ?_
              refine pq_in_normal ?_
              refine pq_then ?_
              refine cw_region ?_
              -- r19.0 t73 := move  t12
              refine ol_pure rfl (op_move rfl) ?_
              -- r19.1 t74 := add t73 C1
              refine ol_pure rfl (op_add rfl rfl (by omega) (by omega)) ?_
              -- r19.2 t12 := assign  t74
              refine ol_pure rfl (op_assign rfl) ?_
              refine ol_nil ?_
              -- end of round 3 h15f h21f h26f h42f h72t h78t
              refine pq_loop _ _ (by exact (by
                  rw [if_pos h78] at hps
                  exact ⟨i + 1, osn, c_osn, _, rfl, by omega, rfl, by rw [hps]; exact hus.snoc (x := l[i]) rfl ⟨_, rfl, hvk.mono EInt.mono hlk, hrk⟩, by rw [hps, List.length_append]; exact hS⟩)) ((Sub.cons rfl (Sub.cons rfl (Sub.cons rfl (Sub.cons rfl (Sub.cons rfl Sub.nil)))))) (by omega)
            · skip
              try simp only [decide_eq_true_eq, decide_eq_false_iff_not, Bool.not_eq_true', Bool.not_eq_false', Bool.not_eq_eq_eq_not, Bool.not_true, Bool.not_false] at h78
              refine cw_skip ?_
              refine pq_in_normal ?_
              refine pq_then ?_
              refine cw_region ?_
              -- r19.0 t73 := move  t12
              refine ol_pure rfl (op_move rfl) ?_
              -- r19.1 t74 := add t73 C1
              refine ol_pure rfl (op_add rfl rfl (by omega) (by omega)) ?_
              -- r19.2 t12 := assign  t74
              refine ol_pure rfl (op_assign rfl) ?_
              refine ol_nil ?_
              -- end of round 3 h15f h21f h26f h42f h72t h78f
              refine pq_loop _ _ (by exact (by
                  rw [if_neg (by rw [h78]; decide), List.append_nil] at hps
                  exact ⟨i + 1, os, cs, us, rfl, by omega, rfl, by rw [hps]; exact hus, by rw [hps]; exact hS⟩)) ((Sub.cons rfl (Sub.cons rfl (Sub.cons rfl (Sub.cons rfl (Sub.cons rfl Sub.nil)))))) (by omega)
          · skip
            try simp only [decide_eq_true_eq, decide_eq_false_iff_not, Bool.not_eq_true', Bool.not_eq_false', Bool.not_eq_eq_eq_not, Bool.not_true, Bool.not_false] at h72
            refine cw_exit ?_
            refine pq_exit ?_
            refine pq_exit ?_
            refine pq_in_exit ?_
            refine pq_then ?_
            refine cw_seq ?_
            refine cw_region ?_
            -- r22.0 t89 := load [34] t11
            refine ol_load rfl (op_loadN agg_34 rfl (by rfl) (fun w hw k u hk => (hw.bcell (i := 1) rfl).trans hk)) hS ?_
            -- r22.1 _ := store [34] t6 t89
            refine ol_step0  (op_storeN (j := 4) hS sz_34 rfl rfl rfl rfl rfl (by simp [Value.oneCell'])) ?_
            clear hS
            rintro _ w hS; (try simp only [List.nil_append, List.cons_append, List.set] at hS)
            refine ol_nil ?_
            refine pq_then ?_
            refine cw_ret ?_
            refine retN rfl agg_34 rfl (by rfl) (fun k u hk => (hS.bcell (i := 4) rfl).trans hk) ?_
            -- ret3 h15f h21f h26f h42f h72f
            have hk0 : k = 0 := by omega
            subst hk0
            have hnd : needI atoms.length rs l aa = nd := hne
            rw [List.take_of_length_le (show l.length ≤ i by omega), List.take_of_length_le (show nd.length ≤ i by omega)] at hS hus
            obtain ⟨G7, hl7, hS7, hR7⟩ := SS.give' (partI l nd) [_, _] EStep.mono hS (by decide) hus rfl
            refine hS7.rt _ ⟨_, _, rfl, ?_, ?_⟩
            · rw [hfo, hnd, List.take_of_length_le (show l.length ≤ i by omega), List.take_of_length_le (show nd.length ≤ i by omega)]
              exact hR7
            · rw [hfo]
              exact RSl.nil _
set_option maxRecDepth 100000 in
set_option maxHeartbeats 4000000 in

theorem R21_Fits_c (G : GH) (w0 : World) (hG : Holds G w0) {α : Type} {E : ER α} (hE : EMono E) (va vr : Value) (atoms : List α) (rs : List Rule) (h1 : RSl 1 E G va atoms) (h2 : RSl 3 ERule G vr rs) (hP : PrOk atoms.length rs) (vm : Value) (m : List Int) (h3 : RSl 1 EInt G vm m) (hm : m.length = atoms.length) (s : Step) (u : Value) (h4 : RSl 1 EInt G u s.atoms) (hsb : -9223372036854775808 ≤ s.rule ∧ s.rule ≤ 9223372036854775807)  :
    Calls Try.prog 24 #[.agg #[va, vr], vm, .agg #[.int .i64 s.rule, u]] w0 (Sc w0 (.bool (stepOk rs m s))) := by
  obtain ⟨oA, cA, rfl, hlA, hmA⟩ := h1.elim
  obtain ⟨oR, cR, rfl, hlR, hmR⟩ := h2.elim
  have hle1 := h1.le
  have hle2 := h2.le
  have hPn := hP.n_le
  have hPm := hP.m_le
  obtain ⟨oM, cM, rfl, hlM, hmM⟩ := h3.elim
  have hMle := h3.le
  obtain ⟨oS, cS, rfl, hlS, hmS⟩ := h4.elim
  have hSle := h4.le
  refine enter Try.func24 rfl (N := 174) rfl (Nat.le_of_ble_eq_true rfl) ?_
  have hS := SS.init hG
  refine cw_seq ?_
  refine cw_region ?_
  -- r0.0 t3 := box [26] t0
  refine ol_step rfl (op_box hS rfl rfl) ?_
  clear hS
  rintro _ w ⟨b3, rfl, hS⟩
  -- r0.1 t5 := box [37] t2
  refine ol_step rfl (op_box hS rfl rfl) ?_
  clear hS
  rintro _ w ⟨b5, rfl, hS⟩
  -- r0.2 t6 := assign  Cfalse
  refine ol_pure rfl (op_assign rfl) ?_
  refine ol_nil ?_
  refine pq_then ?_
  refine cw_seq ?_
  refine cw_seq ?_
  refine cw_region ?_
  -- r1.0 t15 := fieldAddr [37, 0] t5
  refine ol_pure rfl (op_fieldAddr fld_37_0 rfl) ?_
  -- r1.1 t16 := load [3] t15
  refine ol_load rfl (op_load1 one_3 rfl (fun w hw => (hw.bcell (i := 0) rfl).trans rfl)) hS ?_
  -- r1.2 t17 := fieldAddr [26, 1] t3
  refine ol_pure rfl (op_fieldAddr fld_26_1 rfl) ?_
  -- r1.3 t18 := load [22] t17
  refine ol_load rfl (op_load1 one_22 rfl (fun w hw => (hw.bcell (i := 1) rfl).trans rfl)) hS ?_
  -- r1.4 t19 := call len t18
  refine ol_pure rfl (op_len sl_22 rfl rfl) ?_
  -- r1.5 t20 := geq t16 t19
  refine ol_pure rfl (op_geq rfl rfl) ?_
  -- r1.6 t21 := move  t20
  refine ol_pure rfl (op_move rfl) ?_
  refine ol_split (fun h21 => ?_) (fun h21 => ?_)
  · skip
    try simp only [decide_eq_true_eq, decide_eq_false_iff_not, Bool.not_eq_true', Bool.not_eq_false', Bool.not_eq_eq_eq_not, Bool.not_true, Bool.not_false] at h21
    refine ol_guard_no rfl rfl rfl rfl ?_
    refine ol_guard_no rfl rfl rfl rfl ?_
    refine ol_guard_no rfl rfl rfl rfl ?_
    refine ol_guard_no rfl rfl rfl rfl ?_
    -- r1.11 t26 := pick  t21 Ctrue t25
    refine ol_pure rfl (op_pick_t rfl rfl) ?_
    refine ol_nil ?_
    refine pq_then ?_
    refine cw_cond_t rfl ?_
    refine cw_seq ?_
    refine cw_region ?_
    -- r2.0 t6 := assign  Cfalse
    refine ol_pure rfl (op_assign rfl) ?_
    refine ol_nil ?_
    refine pq_then ?_
    refine cw_ret ?_
    refine pq_ret ?_
    refine ret1 rfl rfl ?_
    -- ret1 h21t
    exact hS.sc_b (by symm; first | exact stepOk_big (by omega) | exact stepOk_noset (by rw [setOpen, decide_eq_false (show ¬ 0 < s.atoms.length by omega), Bool.and_false]))
  · skip
    try simp only [decide_eq_true_eq, decide_eq_false_iff_not, Bool.not_eq_true', Bool.not_eq_false', Bool.not_eq_eq_eq_not, Bool.not_true, Bool.not_false] at h21
    -- r1.7 t22 := fieldAddr [37, 1] t5 ?6=False
    refine ol_guard_pure rfl rfl rfl (op_fieldAddr fld_37_1 rfl) ?_
    -- r1.8 t23 := load [28] t22 ?6=False
    refine ol_guard_load rfl rfl rfl (op_load1 one_28 rfl (fun w hw => (hw.bcell (i := 0) rfl).trans rfl)) hS ?_
    -- r1.9 t24 := call len t23 ?6=False
    refine ol_guard_pure rfl rfl rfl (op_len sl_28 rfl rfl) ?_
    -- r1.10 t25 := eql t24 C0 ?6=False
    refine ol_guard_pure rfl rfl rfl (op_eql rfl rfl) ?_
    -- r1.11 t26 := pick  t21 Ctrue t25
    refine ol_pure rfl (op_pick_f rfl rfl) ?_
    refine ol_nil ?_
    refine pq_then ?_
    refine cw_cond rfl (fun h26 => ?_) (fun h26 => ?_)
    · skip
      try simp only [decide_eq_true_eq, decide_eq_false_iff_not, Bool.not_eq_true', Bool.not_eq_false', Bool.not_eq_eq_eq_not, Bool.not_true, Bool.not_false] at h26
      refine cw_seq ?_
      refine cw_region ?_
      -- r2.0 t6 := assign  Cfalse
      refine ol_pure rfl (op_assign rfl) ?_
      refine ol_nil ?_
      refine pq_then ?_
      refine cw_ret ?_
      refine pq_ret ?_
      refine ret1 rfl rfl ?_
      -- ret1 h21f h26t
      exact hS.sc_b (by symm; first | exact stepOk_big (by omega) | exact stepOk_noset (by rw [setOpen, decide_eq_false (show ¬ 0 < s.atoms.length by omega), Bool.and_false]))
    · skip
      try simp only [decide_eq_true_eq, decide_eq_false_iff_not, Bool.not_eq_true', Bool.not_eq_false', Bool.not_eq_eq_eq_not, Bool.not_true, Bool.not_false] at h26
      have hne : 0 < s.atoms.length := by omega
      have hrl : s.rule < rs.length := by omega
      refine cw_skip ?_
      refine pq_then ?_
      refine cw_seq ?_
      refine cw_seq ?_
      refine cw_region ?_
      -- r3.0 t7 := assign  C0
      refine ol_pure rfl (op_assign rfl) ?_
      refine ol_nil ?_
      refine pq_then ?_
      refine cw_block ?_
      refine cw_loop (fun e w n => ∃ k : Nat, e = [(1, .slice oM m.length cM), (3, .pointer (some ⟨b3, 0, none⟩)), (5, .pointer (some ⟨b5, 0, none⟩)), (7, .int .i64 (k : Nat))] ∧ k ≤ s.atoms.length ∧ n = s.atoms.length - k ∧ (s.atoms.take k).all (fun a => decide (0 ≤ a) && decide (a < (m.length : Int)) && decide (valI m a = 1)) = true ∧ (s.atoms.take k).Pairwise (· < ·) ∧ SS G w0 G [.blk b5 37 [.int .i64 s.rule, .slice oS s.atoms.length cS], .blk b3 26 [.slice oA atoms.length cA, .slice oR rs.length cR]] w) _ _ (by exact ⟨0, rfl, Nat.zero_le _, rfl, rfl, by simp, hS⟩) ((Sub.cons rfl (Sub.cons rfl (Sub.cons rfl (Sub.cons rfl Sub.nil))))) ?_
      clear hS
      rintro e w n ⟨k, rfl, hk, rfl, hpa, hpw, hS⟩
      refine cw_seq ?_
      refine cw_seq ?_
      refine cw_region ?_
      -- r4.0 t27 := move  t7
      refine ol_pure rfl (op_move rfl) ?_
      -- r4.1 t28 := fieldAddr [37, 1] t5
      refine ol_pure rfl (op_fieldAddr fld_37_1 rfl) ?_
      -- r4.2 t29 := load [28] t28
      refine ol_load rfl (op_load1 one_28 rfl (fun w hw => (hw.bcell (i := 0) rfl).trans rfl)) hS ?_
      -- r4.3 t30 := call len t29
      refine ol_pure rfl (op_len sl_28 rfl rfl) ?_
      -- r4.4 t31 := lss t27 t30
      refine ol_pure rfl (op_lss rfl rfl) ?_
      refine ol_nil ?_
      refine pq_then ?_
      refine cw_cond rfl (fun h31 => ?_) (fun h31 => ?_)
      · skip
        try simp only [decide_eq_true_eq, decide_eq_false_iff_not, Bool.not_eq_true', Bool.not_eq_false', Bool.not_eq_eq_eq_not, Bool.not_true, Bool.not_false] at h31
        have hlt : k < s.atoms.length := by omega
        obtain ⟨hoa, hcl, hb⟩ := h4.int hlt
        refine cw_skip ?_
        refine pq_then ?_
        refine cw_seq ?_
        refine cw_block ?_
        refine cw_seq ?_
        refine al_start' hS (hS.take 1) (by kernel_rfl) rfl (fun w hS hT => ?_)
        -- r6.0 t34 := fieldAddr [37, 1] t5
        refine al_take (i := 0) rfl (by kernel_rfl) (by kernel_rfl) (by kernel_rfl) rfl (fun _ _ _ h => h) (op_fieldAddr fld_37_1 rfl) rfl ?_
        -- r6.1 t35 := load [28] t34
        refine al_load (i := 1) rfl (by kernel_rfl) (by kernel_rfl) (by kernel_rfl) rfl (fun _ _ _ h => h) (by exact op_load1 one_28 rfl (fun w hw => (hw.bcell (i := 0) rfl).trans rfl)) rfl hT ?_
        -- r6.2 t36 := move  t7
        refine al_take (i := 2) rfl (by kernel_rfl) (by kernel_rfl) (by kernel_rfl) rfl (fun _ _ _ h => h) (op_move rfl) rfl ?_
        -- r6.3 t37 := indexAddr [28] t35 t36
        refine al_take (i := 3) rfl (by kernel_rfl) (by kernel_rfl) (by kernel_rfl) rfl (fun _ _ _ h => h) (op_indexN sl_28 rfl rfl (by omega) hoa) rfl ?_
        -- r6.4 t38 := load [3] t37
        refine al_load (i := 4) rfl (by kernel_rfl) (by kernel_rfl) (by kernel_rfl) rfl (fun _ _ _ h => h) (by exact op_load1 one_3 rfl (fun w hw => hw.gcell hcl)) rfl hT ?_
        -- r6.5 t39 := lss t38 C0
        refine al_take (i := 5) rfl (by kernel_rfl) (by kernel_rfl) (by kernel_rfl) rfl (fun _ _ _ h => h) (op_lss rfl rfl) rfl ?_
        -- r6.6 t40 := move  t39
        refine al_take (i := 6) rfl (by kernel_rfl) (by kernel_rfl) (by kernel_rfl) rfl (fun _ _ _ h => h) (op_move rfl) rfl ?_
        refine al_split (fun h40 => ?_) (fun h40 => ?_)
        · skip
          try simp only [decide_eq_true_eq, decide_eq_false_iff_not, Bool.not_eq_true', Bool.not_eq_false', Bool.not_eq_eq_eq_not, Bool.not_true, Bool.not_false] at h40
          refine al_gskip (i := 7) rfl (by kernel_rfl) (by kernel_rfl) (by kernel_rfl) rfl rfl rfl rfl (fun _ _ _ h => h) (fun _ => hT) ?_
          refine al_gskip (i := 8) rfl (by kernel_rfl) (by kernel_rfl) (by kernel_rfl) rfl rfl rfl rfl (fun _ _ _ h => h) (fun _ => hT) ?_
          refine al_gskip (i := 9) rfl (by kernel_rfl) (by kernel_rfl) (by kernel_rfl) rfl rfl rfl rfl (fun _ _ _ h => h) (fun _ => hT) ?_
          refine al_gskip (i := 10) rfl (by kernel_rfl) (by kernel_rfl) (by kernel_rfl) rfl rfl rfl rfl (fun _ _ _ h => h) (fun _ => hT) ?_
          refine al_gskip (i := 11) rfl (by kernel_rfl) (by kernel_rfl) (by kernel_rfl) rfl rfl rfl rfl (fun _ _ _ h => h) (fun _ => hT) ?_
          refine al_gskip (i := 12) rfl (by kernel_rfl) (by kernel_rfl) (by kernel_rfl) rfl rfl rfl rfl (fun _ _ _ h => h) (fun _ => hT) ?_
          refine al_gskip (i := 13) rfl (by kernel_rfl) (by kernel_rfl) (by kernel_rfl) rfl rfl rfl rfl (fun _ _ _ h => h) (fun _ => hT) ?_
          refine al_gskip (i := 14) rfl (by kernel_rfl) (by kernel_rfl) (by kernel_rfl) rfl rfl rfl rfl (fun _ _ _ h => h) (fun _ => hT) ?_
          -- r6.15 t49 := pick  t40 Ctrue t48
          refine al_take (i := 15) rfl (by kernel_rfl) (by kernel_rfl) (by kernel_rfl) rfl (fun _ _ _ h => h) (op_pick_t rfl rfl) rfl ?_
          -- r6.16 t50 := move  t49
          refine al_take (i := 16) rfl (by kernel_rfl) (by kernel_rfl) (by kernel_rfl) rfl (fun _ _ _ h => h) (op_move rfl) rfl ?_
          refine al_gskip (i := 17) rfl (by kernel_rfl) (by kernel_rfl) (by kernel_rfl) rfl rfl rfl rfl (fun _ _ _ h => h) (fun _ => hT) ?_
          refine al_gskip (i := 18) rfl (by kernel_rfl) (by kernel_rfl) (by kernel_rfl) rfl rfl rfl rfl (fun _ _ _ h => h) (fun _ => hT) ?_
          refine al_gskip (i := 19) rfl (by kernel_rfl) (by kernel_rfl) (by kernel_rfl) rfl rfl rfl rfl (fun _ _ _ h => h) (fun _ => hT) ?_
          refine al_gskip (i := 20) rfl (by kernel_rfl) (by kernel_rfl) (by kernel_rfl) rfl rfl rfl rfl (fun _ _ _ h => h) (fun _ => hT) ?_
          refine al_gskip (i := 21) rfl (by kernel_rfl) (by kernel_rfl) (by kernel_rfl) rfl rfl rfl rfl (fun _ _ _ h => h) (fun _ => hT) ?_
          refine al_gskip (i := 22) rfl (by kernel_rfl) (by kernel_rfl) (by kernel_rfl) rfl rfl rfl rfl (fun _ _ _ h => h) (fun _ => hT) ?_
          refine al_gskip (i := 23) rfl (by kernel_rfl) (by kernel_rfl) (by kernel_rfl) rfl rfl rfl rfl (fun _ _ _ h => h) (fun _ => hT) ?_
          refine al_gskip (i := 24) rfl (by kernel_rfl) (by kernel_rfl) (by kernel_rfl) rfl rfl rfl rfl (fun _ _ _ h => h) (fun _ => hT) ?_
          refine al_gskip (i := 25) rfl (by kernel_rfl) (by kernel_rfl) (by kernel_rfl) rfl rfl rfl rfl (fun _ _ _ h => h) (fun _ => hT) ?_
          -- r6.26 t60 := pick  t50 Ctrue t59
          refine al_take (i := 26) rfl (by kernel_rfl) (by kernel_rfl) (by kernel_rfl) rfl (fun _ _ _ h => h) (op_pick_t rfl rfl) rfl ?_
          -- r6.27 t61 := move  t60
          refine al_take (i := 27) rfl (by kernel_rfl) (by kernel_rfl) (by kernel_rfl) rfl (fun _ _ _ h => h) (op_move rfl) rfl ?_
          refine al_gskip (i := 28) rfl (by kernel_rfl) (by kernel_rfl) (by kernel_rfl) rfl rfl rfl rfl (fun _ _ _ h => h) (fun _ => hT) ?_
          refine al_gskip (i := 29) rfl (by kernel_rfl) (by kernel_rfl) (by kernel_rfl) rfl rfl rfl rfl (fun _ _ _ h => h) (fun _ => hT) ?_
          refine al_gskip (i := 30) rfl (by kernel_rfl) (by kernel_rfl) (by kernel_rfl) rfl rfl rfl rfl (fun _ _ _ h => h) (fun _ => hT) ?_
          refine al_gundef (i := 31) rfl (by kernel_rfl) (by kernel_rfl) (by kernel_rfl) rfl rfl rfl (fun _ _ _ h => h) (fun _ => hT) ?_
          refine al_gundef (i := 32) rfl (by kernel_rfl) (by kernel_rfl) (by kernel_rfl) rfl rfl rfl (fun _ _ _ h => h) (fun _ => hT) ?_
          refine al_gundef (i := 33) rfl (by kernel_rfl) (by kernel_rfl) (by kernel_rfl) rfl rfl rfl (fun _ _ _ h => h) (fun _ => hT) ?_
          refine al_gundef (i := 34) rfl (by kernel_rfl) (by kernel_rfl) (by kernel_rfl) rfl rfl rfl (fun _ _ _ h => h) (fun _ => hT) ?_
          refine al_gundef (i := 35) rfl (by kernel_rfl) (by kernel_rfl) (by kernel_rfl) rfl rfl rfl (fun _ _ _ h => h) (fun _ => hT) ?_
          refine al_gundef (i := 36) rfl (by kernel_rfl) (by kernel_rfl) (by kernel_rfl) rfl rfl rfl (fun _ _ _ h => h) (fun _ => hT) ?_
          refine al_gundef (i := 37) rfl (by kernel_rfl) (by kernel_rfl) (by kernel_rfl) rfl rfl rfl (fun _ _ _ h => h) (fun _ => hT) ?_
          refine al_gundef (i := 38) rfl (by kernel_rfl) (by kernel_rfl) (by kernel_rfl) rfl rfl rfl (fun _ _ _ h => h) (fun _ => hT) ?_
          refine al_gundef (i := 39) rfl (by kernel_rfl) (by kernel_rfl) (by kernel_rfl) rfl rfl rfl (fun _ _ _ h => h) (fun _ => hT) ?_
          refine al_gundef (i := 40) rfl (by kernel_rfl) (by kernel_rfl) (by kernel_rfl) rfl rfl rfl (fun _ _ _ h => h) (fun _ => hT) ?_
          refine al_gundef (i := 41) rfl (by kernel_rfl) (by kernel_rfl) (by kernel_rfl) rfl rfl rfl (fun _ _ _ h => h) (fun _ => hT) ?_
          refine al_gundef (i := 42) rfl (by kernel_rfl) (by kernel_rfl) (by kernel_rfl) rfl rfl rfl (fun _ _ _ h => h) (fun _ => hT) ?_
          refine al_gskip (i := 43) rfl (by kernel_rfl) (by kernel_rfl) (by kernel_rfl) rfl rfl rfl rfl (fun _ _ _ h => h) (fun _ => hT) ?_
          -- r6.44 t78 := pick  t61 Ctrue t77
          refine al_take (i := 44) rfl (by kernel_rfl) (by kernel_rfl) (by kernel_rfl) rfl (fun _ _ _ h => h) (op_pick_t rfl rfl) rfl ?_
          refine al_done (by kernel_rfl) ?_
          refine pq_then ?_
          refine cw_cond_t rfl ?_
          refine cw_seq ?_
          refine cw_region ?_
          -- r7.0 t6 := assign  Cfalse
          refine ol_pure rfl (op_assign rfl) ?_
          refine ol_nil ?_
          refine pq_then ?_
          refine cw_ret ?_
          refine pq_in_ret ?_
          refine pq_ret ?_
          refine pq_ret ?_
          refine pq_in_ret ?_
          refine pq_ret ?_
          refine ret1 rfl rfl ?_
          -- ret2 h21f h26f h31t h40t
          exact hS.sc_b (by symm; exact stepOk_noset (by rw [setOpen, Pl.all_false_at (fun a => decide (0 ≤ a) && decide (a < (m.length : Int)) && decide (valI m a = 1)) _ _ hlt (by simp; omega)]; rfl))
        · skip
          try simp only [decide_eq_true_eq, decide_eq_false_iff_not, Bool.not_eq_true', Bool.not_eq_false', Bool.not_eq_eq_eq_not, Bool.not_true, Bool.not_false] at h40
          -- r6.7 t41 := fieldAddr [37, 1] t5 ?6=False
          refine al_gtake (i := 7) rfl (by kernel_rfl) (by kernel_rfl) (by kernel_rfl) rfl rfl rfl (fun _ _ _ h => h) (op_fieldAddr fld_37_1 rfl) rfl ?_
          -- r6.8 t42 := load [28] t41 ?6=False
          refine al_gload (i := 8) rfl (by kernel_rfl) (by kernel_rfl) (by kernel_rfl) rfl rfl rfl (fun _ _ _ h => h) (by exact op_load1 one_28 rfl (fun w hw => (hw.bcell (i := 0) rfl).trans rfl)) rfl hT ?_
          -- r6.9 t43 := move  t7 ?6=False
          refine al_gtake (i := 9) rfl (by kernel_rfl) (by kernel_rfl) (by kernel_rfl) rfl rfl rfl (fun _ _ _ h => h) (op_move rfl) rfl ?_
          -- r6.10 t44 := indexAddr [28] t42 t43 ?6=False
          refine al_gtake (i := 10) rfl (by kernel_rfl) (by kernel_rfl) (by kernel_rfl) rfl rfl rfl (fun _ _ _ h => h) (op_indexN sl_28 rfl rfl (by omega) hoa) rfl ?_
          -- r6.11 t45 := load [3] t44 ?6=False
          refine al_gload (i := 11) rfl (by kernel_rfl) (by kernel_rfl) (by kernel_rfl) rfl rfl rfl (fun _ _ _ h => h) (by exact op_load1 one_3 rfl (fun w hw => hw.gcell hcl)) rfl hT ?_
          -- r6.12 t46 := move  t1 ?6=False
          refine al_gtake (i := 12) rfl (by kernel_rfl) (by kernel_rfl) (by kernel_rfl) rfl rfl rfl (fun _ _ _ h => h) (op_move rfl) rfl ?_
          -- r6.13 t47 := call len t46 ?6=False
          refine al_gtake (i := 13) rfl (by kernel_rfl) (by kernel_rfl) (by kernel_rfl) rfl rfl rfl (fun _ _ _ h => h) (op_len sl_28 rfl rfl) rfl ?_
          -- r6.14 t48 := geq t45 t47 ?6=False
          refine al_gtake (i := 14) rfl (by kernel_rfl) (by kernel_rfl) (by kernel_rfl) rfl rfl rfl (fun _ _ _ h => h) (op_geq rfl rfl) rfl ?_
          -- r6.15 t49 := pick  t40 Ctrue t48
          refine al_take (i := 15) rfl (by kernel_rfl) (by kernel_rfl) (by kernel_rfl) rfl (fun _ _ _ h => h) (op_pick_f rfl rfl) rfl ?_
          -- r6.16 t50 := move  t49
          refine al_take (i := 16) rfl (by kernel_rfl) (by kernel_rfl) (by kernel_rfl) rfl (fun _ _ _ h => h) (op_move rfl) rfl ?_
          refine al_split (fun h50 => ?_) (fun h50 => ?_)
          · skip
            try simp only [decide_eq_true_eq, decide_eq_false_iff_not, Bool.not_eq_true', Bool.not_eq_false', Bool.not_eq_eq_eq_not, Bool.not_true, Bool.not_false] at h50
            refine al_gskip (i := 17) rfl (by kernel_rfl) (by kernel_rfl) (by kernel_rfl) rfl rfl rfl rfl (fun _ _ _ h => h) (fun _ => hT) ?_
            refine al_gskip (i := 18) rfl (by kernel_rfl) (by kernel_rfl) (by kernel_rfl) rfl rfl rfl rfl (fun _ _ _ h => h) (fun _ => hT) ?_
            refine al_gskip (i := 19) rfl (by kernel_rfl) (by kernel_rfl) (by kernel_rfl) rfl rfl rfl rfl (fun _ _ _ h => h) (fun _ => hT) ?_
            refine al_gskip (i := 20) rfl (by kernel_rfl) (by kernel_rfl) (by kernel_rfl) rfl rfl rfl rfl (fun _ _ _ h => h) (fun _ => hT) ?_
            refine al_gskip (i := 21) rfl (by kernel_rfl) (by kernel_rfl) (by kernel_rfl) rfl rfl rfl rfl (fun _ _ _ h => h) (fun _ => hT) ?_
            refine al_gskip (i := 22) rfl (by kernel_rfl) (by kernel_rfl) (by kernel_rfl) rfl rfl rfl rfl (fun _ _ _ h => h) (fun _ => hT) ?_
            refine al_gskip (i := 23) rfl (by kernel_rfl) (by kernel_rfl) (by kernel_rfl) rfl rfl rfl rfl (fun _ _ _ h => h) (fun _ => hT) ?_
            refine al_gskip (i := 24) rfl (by kernel_rfl) (by kernel_rfl) (by kernel_rfl) rfl rfl rfl rfl (fun _ _ _ h => h) (fun _ => hT) ?_
            refine al_gskip (i := 25) rfl (by kernel_rfl) (by kernel_rfl) (by kernel_rfl) rfl rfl rfl rfl (fun _ _ _ h => h) (fun _ => hT) ?_
            -- r6.26 t60 := pick  t50 Ctrue t59
            refine al_take (i := 26) rfl (by kernel_rfl) (by kernel_rfl) (by kernel_rfl) rfl (fun _ _ _ h => h) (op_pick_t rfl rfl) rfl ?_
            -- r6.27 t61 := move  t60
            refine al_take (i := 27) rfl (by kernel_rfl) (by kernel_rfl) (by kernel_rfl) rfl (fun _ _ _ h => h) (op_move rfl) rfl ?_
            refine al_gskip (i := 28) rfl (by kernel_rfl) (by kernel_rfl) (by kernel_rfl) rfl rfl rfl rfl (fun _ _ _ h => h) (fun _ => hT) ?_
            refine al_gskip (i := 29) rfl (by kernel_rfl) (by kernel_rfl) (by kernel_rfl) rfl rfl rfl rfl (fun _ _ _ h => h) (fun _ => hT) ?_
            refine al_gskip (i := 30) rfl (by kernel_rfl) (by kernel_rfl) (by kernel_rfl) rfl rfl rfl rfl (fun _ _ _ h => h) (fun _ => hT) ?_
            refine al_gundef (i := 31) rfl (by kernel_rfl) (by kernel_rfl) (by kernel_rfl) rfl rfl rfl (fun _ _ _ h => h) (fun _ => hT) ?_
            refine al_gundef (i := 32) rfl (by kernel_rfl) (by kernel_rfl) (by kernel_rfl) rfl rfl rfl (fun _ _ _ h => h) (fun _ => hT) ?_
            refine al_gundef (i := 33) rfl (by kernel_rfl) (by kernel_rfl) (by kernel_rfl) rfl rfl rfl (fun _ _ _ h => h) (fun _ => hT) ?_
            refine al_gundef (i := 34) rfl (by kernel_rfl) (by kernel_rfl) (by kernel_rfl) rfl rfl rfl (fun _ _ _ h => h) (fun _ => hT) ?_
            refine al_gundef (i := 35) rfl (by kernel_rfl) (by kernel_rfl) (by kernel_rfl) rfl rfl rfl (fun _ _ _ h => h) (fun _ => hT) ?_
            refine al_gundef (i := 36) rfl (by kernel_rfl) (by kernel_rfl) (by kernel_rfl) rfl rfl rfl (fun _ _ _ h => h) (fun _ => hT) ?_
            refine al_gundef (i := 37) rfl (by kernel_rfl) (by kernel_rfl) (by kernel_rfl) rfl rfl rfl (fun _ _ _ h => h) (fun _ => hT) ?_
            refine al_gundef (i := 38) rfl (by kernel_rfl) (by kernel_rfl) (by kernel_rfl) rfl rfl rfl (fun _ _ _ h => h) (fun _ => hT) ?_
            refine al_gundef (i := 39) rfl (by kernel_rfl) (by kernel_rfl) (by kernel_rfl) rfl rfl rfl (fun _ _ _ h => h) (fun _ => hT) ?_
            refine al_gundef (i := 40) rfl (by kernel_rfl) (by kernel_rfl) (by kernel_rfl) rfl rfl rfl (fun _ _ _ h => h) (fun _ => hT) ?_
            refine al_gundef (i := 41) rfl (by kernel_rfl) (by kernel_rfl) (by kernel_rfl) rfl rfl rfl (fun _ _ _ h => h) (fun _ => hT) ?_
            refine al_gundef (i := 42) rfl (by kernel_rfl) (by kernel_rfl) (by kernel_rfl) rfl rfl rfl (fun _ _ _ h => h) (fun _ => hT) ?_
            refine al_gskip (i := 43) rfl (by kernel_rfl) (by kernel_rfl) (by kernel_rfl) rfl rfl rfl rfl (fun _ _ _ h => h) (fun _ => hT) ?_
            -- r6.44 t78 := pick  t61 Ctrue t77
            refine al_take (i := 44) rfl (by kernel_rfl) (by kernel_rfl) (by kernel_rfl) rfl (fun _ _ _ h => h) (op_pick_t rfl rfl) rfl ?_
            refine al_done (by kernel_rfl) ?_
            refine pq_then ?_
            refine cw_cond_t rfl ?_
            refine cw_seq ?_
            refine cw_region ?_
            -- r7.0 t6 := assign  Cfalse
            refine ol_pure rfl (op_assign rfl) ?_
            refine ol_nil ?_
            refine pq_then ?_
            refine cw_ret ?_
            refine pq_in_ret ?_
            refine pq_ret ?_
            refine pq_ret ?_
            refine pq_in_ret ?_
            refine pq_ret ?_
            refine ret1 rfl rfl ?_
            -- ret2 h21f h26f h31t h40f h50t
            exact hS.sc_b (by symm; exact stepOk_noset (by rw [setOpen, Pl.all_false_at (fun a => decide (0 ≤ a) && decide (a < (m.length : Int)) && decide (valI m a = 1)) _ _ hlt (by simp; omega)]; rfl))
          · skip
            try simp only [decide_eq_true_eq, decide_eq_false_iff_not, Bool.not_eq_true', Bool.not_eq_false', Bool.not_eq_eq_eq_not, Bool.not_true, Bool.not_false] at h50
            obtain ⟨j, hj⟩ := Int.eq_ofNat_of_zero_le (show 0 ≤ s.atoms[k] by omega)
            have hjm : j < m.length := by omega
            obtain ⟨hoM, hcM, _⟩ := h3.int hjm
            have hvj : valI m s.atoms[k] = m[j] := by rw [hj]; exact val_at' hjm
            -- r6.17 t51 := move  t1 ?16=False
            refine al_gtake (i := 17) rfl (by kernel_rfl) (by kernel_rfl) (by kernel_rfl) rfl rfl rfl (fun _ _ _ h => h) (op_move rfl) rfl ?_
            -- r6.18 t52 := fieldAddr [37, 1] t5 ?16=False
            refine al_gtake (i := 18) rfl (by kernel_rfl) (by kernel_rfl) (by kernel_rfl) rfl rfl rfl (fun _ _ _ h => h) (op_fieldAddr fld_37_1 rfl) rfl ?_
            -- r6.19 t53 := load [28] t52 ?16=False
            refine al_gload (i := 19) rfl (by kernel_rfl) (by kernel_rfl) (by kernel_rfl) rfl rfl rfl (fun _ _ _ h => h) (by exact op_load1 one_28 rfl (fun w hw => (hw.bcell (i := 0) rfl).trans rfl)) rfl hT ?_
            -- r6.20 t54 := move  t7 ?16=False
            refine al_gtake (i := 20) rfl (by kernel_rfl) (by kernel_rfl) (by kernel_rfl) rfl rfl rfl (fun _ _ _ h => h) (op_move rfl) rfl ?_
            -- r6.21 t55 := indexAddr [28] t53 t54 ?16=False
            refine al_gtake (i := 21) rfl (by kernel_rfl) (by kernel_rfl) (by kernel_rfl) rfl rfl rfl (fun _ _ _ h => h) (op_indexN sl_28 rfl rfl (by omega) hoa) rfl ?_
            -- r6.22 t56 := load [3] t55 ?16=False
            refine al_gload (i := 22) rfl (by kernel_rfl) (by kernel_rfl) (by kernel_rfl) rfl rfl rfl (fun _ _ _ h => h) (by exact op_load1 one_3 rfl (fun w hw => hw.gcell hcl)) rfl hT ?_
            -- r6.23 t57 := indexAddr [28] t51 t56 ?16=False
            refine al_gtake (i := 23) rfl (by kernel_rfl) (by kernel_rfl) (by kernel_rfl) rfl rfl rfl (fun _ _ _ h => h) (op_indexAddr sl_28 rfl rfl (by omega) (by omega) hoM) rfl ?_
            -- r6.24 t58 := load [3] t57 ?16=False
            refine al_gload (i := 24) rfl (by kernel_rfl) (by kernel_rfl) (by kernel_rfl) rfl rfl rfl (fun _ _ _ h => h) (by exact op_load1 one_3 rfl (fun w hw => hw.gcell (by rw [hj]; exact hcM))) rfl hT ?_
            -- r6.25 t59 := neq t58 C1 ?16=False
            refine al_gtake (i := 25) rfl (by kernel_rfl) (by kernel_rfl) (by kernel_rfl) rfl rfl rfl (fun _ _ _ h => h) (op_neq rfl rfl) rfl ?_
            -- r6.26 t60 := pick  t50 Ctrue t59
            refine al_take (i := 26) rfl (by kernel_rfl) (by kernel_rfl) (by kernel_rfl) rfl (fun _ _ _ h => h) (op_pick_f rfl rfl) rfl ?_
            -- r6.27 t61 := move  t60
            refine al_take (i := 27) rfl (by kernel_rfl) (by kernel_rfl) (by kernel_rfl) rfl (fun _ _ _ h => h) (op_move rfl) rfl ?_
            refine al_split (fun h61 => ?_) (fun h61 => ?_)
            · skip
              try simp only [decide_eq_true_eq, decide_eq_false_iff_not, Bool.not_eq_true', Bool.not_eq_false', Bool.not_eq_eq_eq_not, Bool.not_true, Bool.not_false] at h61
              refine al_gskip (i := 28) rfl (by kernel_rfl) (by kernel_rfl) (by kernel_rfl) rfl rfl rfl rfl (fun _ _ _ h => h) (fun _ => hT) ?_
              refine al_gskip (i := 29) rfl (by kernel_rfl) (by kernel_rfl) (by kernel_rfl) rfl rfl rfl rfl (fun _ _ _ h => h) (fun _ => hT) ?_
              refine al_gskip (i := 30) rfl (by kernel_rfl) (by kernel_rfl) (by kernel_rfl) rfl rfl rfl rfl (fun _ _ _ h => h) (fun _ => hT) ?_
              refine al_gundef (i := 31) rfl (by kernel_rfl) (by kernel_rfl) (by kernel_rfl) rfl rfl rfl (fun _ _ _ h => h) (fun _ => hT) ?_
              refine al_gundef (i := 32) rfl (by kernel_rfl) (by kernel_rfl) (by kernel_rfl) rfl rfl rfl (fun _ _ _ h => h) (fun _ => hT) ?_
              refine al_gundef (i := 33) rfl (by kernel_rfl) (by kernel_rfl) (by kernel_rfl) rfl rfl rfl (fun _ _ _ h => h) (fun _ => hT) ?_
              refine al_gundef (i := 34) rfl (by kernel_rfl) (by kernel_rfl) (by kernel_rfl) rfl rfl rfl (fun _ _ _ h => h) (fun _ => hT) ?_
              refine al_gundef (i := 35) rfl (by kernel_rfl) (by kernel_rfl) (by kernel_rfl) rfl rfl rfl (fun _ _ _ h => h) (fun _ => hT) ?_
              refine al_gundef (i := 36) rfl (by kernel_rfl) (by kernel_rfl) (by kernel_rfl) rfl rfl rfl (fun _ _ _ h => h) (fun _ => hT) ?_
              refine al_gundef (i := 37) rfl (by kernel_rfl) (by kernel_rfl) (by kernel_rfl) rfl rfl rfl (fun _ _ _ h => h) (fun _ => hT) ?_
              refine al_gundef (i := 38) rfl (by kernel_rfl) (by kernel_rfl) (by kernel_rfl) rfl rfl rfl (fun _ _ _ h => h) (fun _ => hT) ?_
              refine al_gundef (i := 39) rfl (by kernel_rfl) (by kernel_rfl) (by kernel_rfl) rfl rfl rfl (fun _ _ _ h => h) (fun _ => hT) ?_
              refine al_gundef (i := 40) rfl (by kernel_rfl) (by kernel_rfl) (by kernel_rfl) rfl rfl rfl (fun _ _ _ h => h) (fun _ => hT) ?_
              refine al_gundef (i := 41) rfl (by kernel_rfl) (by kernel_rfl) (by kernel_rfl) rfl rfl rfl (fun _ _ _ h => h) (fun _ => hT) ?_
              refine al_gundef (i := 42) rfl (by kernel_rfl) (by kernel_rfl) (by kernel_rfl) rfl rfl rfl (fun _ _ _ h => h) (fun _ => hT) ?_
              refine al_gskip (i := 43) rfl (by kernel_rfl) (by kernel_rfl) (by kernel_rfl) rfl rfl rfl rfl (fun _ _ _ h => h) (fun _ => hT) ?_
              -- r6.44 t78 := pick  t61 Ctrue t77
              refine al_take (i := 44) rfl (by kernel_rfl) (by kernel_rfl) (by kernel_rfl) rfl (fun _ _ _ h => h) (op_pick_t rfl rfl) rfl ?_
              refine al_done (by kernel_rfl) ?_
              refine pq_then ?_
              refine cw_cond_t rfl ?_
              refine cw_seq ?_
              refine cw_region ?_
              -- r7.0 t6 := assign  Cfalse
              refine ol_pure rfl (op_assign rfl) ?_
              refine ol_nil ?_
              refine pq_then ?_
              refine cw_ret ?_
              refine pq_in_ret ?_
              refine pq_ret ?_
              refine pq_ret ?_
              refine pq_in_ret ?_
              refine pq_ret ?_
              refine ret1 rfl rfl ?_
              -- ret2 h21f h26f h31t h40f h50f h61t
              exact hS.sc_b (by symm; exact stepOk_noset (by rw [setOpen, Pl.all_false_at (fun a => decide (0 ≤ a) && decide (a < (m.length : Int)) && decide (valI m a = 1)) _ _ hlt (by rw [hvj]; simp; omega)]; rfl))
            · skip
              try simp only [decide_eq_true_eq, decide_eq_false_iff_not, Bool.not_eq_true', Bool.not_eq_false', Bool.not_eq_eq_eq_not, Bool.not_true, Bool.not_false] at h61
              -- r6.28 t62 := move  t7 ?27=False
              refine al_gtake (i := 28) rfl (by kernel_rfl) (by kernel_rfl) (by kernel_rfl) rfl rfl rfl (fun _ _ _ h => h) (op_move rfl) rfl ?_
              -- r6.29 t63 := gtr t62 C0 ?27=False
              refine al_gtake (i := 29) rfl (by kernel_rfl) (by kernel_rfl) (by kernel_rfl) rfl rfl rfl (fun _ _ _ h => h) (op_gtr rfl rfl) rfl ?_
              -- r6.30 t64 := move  t63 ?27=False
              refine al_gtake (i := 30) rfl (by kernel_rfl) (by kernel_rfl) (by kernel_rfl) rfl rfl rfl (fun _ _ _ h => h) (op_move rfl) rfl ?_
              refine al_split (fun h64 => ?_) (fun h64 => ?_)
              · skip
                try simp only [decide_eq_true_eq, decide_eq_false_iff_not, Bool.not_eq_true', Bool.not_eq_false', Bool.not_eq_eq_eq_not, Bool.not_true, Bool.not_false] at h64
                have hk1 : k - 1 < s.atoms.length := by omega
                obtain ⟨_, hc2', _⟩ := h4.int hk1
                have hc2 : gcell G (elA oS (((k : Int) - 1).toNat * 1)) = some (.int .i64 s.atoms[k - 1]) := by rw [show ((k : Int) - 1).toNat = k - 1 from by omega]; exact hc2'
                -- r6.31 t65 := fieldAddr [37, 1] t5 ?30=True
                refine al_gtake (i := 31) rfl (by kernel_rfl) (by kernel_rfl) (by kernel_rfl) rfl rfl rfl (fun _ _ _ h => h) (op_fieldAddr fld_37_1 rfl) rfl ?_
                -- r6.32 t66 := load [28] t65 ?30=True
                refine al_gload (i := 32) rfl (by kernel_rfl) (by kernel_rfl) (by kernel_rfl) rfl rfl rfl (fun _ _ _ h => h) (by exact op_load1 one_28 rfl (fun w hw => (hw.bcell (i := 0) rfl).trans rfl)) rfl hT ?_
                -- r6.33 t67 := move  t7 ?30=True
                refine al_gtake (i := 33) rfl (by kernel_rfl) (by kernel_rfl) (by kernel_rfl) rfl rfl rfl (fun _ _ _ h => h) (op_move rfl) rfl ?_
                -- r6.34 t68 := sub t67 C1 ?30=True
                refine al_gtake (i := 34) rfl (by kernel_rfl) (by kernel_rfl) (by kernel_rfl) rfl rfl rfl (fun _ _ _ h => h) (op_sub rfl rfl (by omega) (by omega)) rfl ?_
                -- r6.35 t69 := indexAddr [28] t66 t68 ?30=True
                refine al_gtake (i := 35) rfl (by kernel_rfl) (by kernel_rfl) (by kernel_rfl) rfl rfl rfl (fun _ _ _ h => h) (op_indexAddr sl_28 rfl rfl (by omega) (by omega) hoa) rfl ?_
                -- r6.36 t70 := load [3] t69 ?30=True
                refine al_gload (i := 36) rfl (by kernel_rfl) (by kernel_rfl) (by kernel_rfl) rfl rfl rfl (fun _ _ _ h => h) (by exact op_load1 one_3 rfl (fun w hw => hw.gcell hc2)) rfl hT ?_
                -- r6.37 t71 := fieldAddr [37, 1] t5 ?30=True
                refine al_gtake (i := 37) rfl (by kernel_rfl) (by kernel_rfl) (by kernel_rfl) rfl rfl rfl (fun _ _ _ h => h) (op_fieldAddr fld_37_1 rfl) rfl ?_
                -- r6.38 t72 := load [28] t71 ?30=True
                refine al_gload (i := 38) rfl (by kernel_rfl) (by kernel_rfl) (by kernel_rfl) rfl rfl rfl (fun _ _ _ h => h) (by exact op_load1 one_28 rfl (fun w hw => (hw.bcell (i := 0) rfl).trans rfl)) rfl hT ?_
                -- r6.39 t73 := move  t7 ?30=True
                refine al_gtake (i := 39) rfl (by kernel_rfl) (by kernel_rfl) (by kernel_rfl) rfl rfl rfl (fun _ _ _ h => h) (op_move rfl) rfl ?_
                -- r6.40 t74 := indexAddr [28] t72 t73 ?30=True
                refine al_gtake (i := 40) rfl (by kernel_rfl) (by kernel_rfl) (by kernel_rfl) rfl rfl rfl (fun _ _ _ h => h) (op_indexN sl_28 rfl rfl (by omega) hoa) rfl ?_
                -- r6.41 t75 := load [3] t74 ?30=True
                refine al_gload (i := 41) rfl (by kernel_rfl) (by kernel_rfl) (by kernel_rfl) rfl rfl rfl (fun _ _ _ h => h) (by exact op_load1 one_3 rfl (fun w hw => hw.gcell hcl)) rfl hT ?_
                -- r6.42 t76 := geq t70 t75 ?30=True
                refine al_gtake (i := 42) rfl (by kernel_rfl) (by kernel_rfl) (by kernel_rfl) rfl rfl rfl (fun _ _ _ h => h) (op_geq rfl rfl) rfl ?_
                -- r6.43 t77 := pick  t64 t76 Cfalse ?27=False
                refine al_gtake (i := 43) rfl (by kernel_rfl) (by kernel_rfl) (by kernel_rfl) rfl rfl rfl (fun _ _ _ h => h) (op_pick_t rfl rfl) rfl ?_
                -- r6.44 t78 := pick  t61 Ctrue t77
                refine al_take (i := 44) rfl (by kernel_rfl) (by kernel_rfl) (by kernel_rfl) rfl (fun _ _ _ h => h) (op_pick_f rfl rfl) rfl ?_
                refine al_done (by kernel_rfl) ?_
                refine pq_then ?_
                refine cw_cond rfl (fun h78 => ?_) (fun h78 => ?_)
                · skip
                  try simp only [decide_eq_true_eq, decide_eq_false_iff_not, Bool.not_eq_true', Bool.not_eq_false', Bool.not_eq_eq_eq_not, Bool.not_true, Bool.not_false] at h78
                  refine cw_seq ?_
                  refine cw_region ?_
                  -- r7.0 t6 := assign  Cfalse
                  refine ol_pure rfl (op_assign rfl) ?_
                  refine ol_nil ?_
                  refine pq_then ?_
                  refine cw_ret ?_
                  refine pq_in_ret ?_
                  refine pq_ret ?_
                  refine pq_ret ?_
                  refine pq_in_ret ?_
                  refine pq_ret ?_
                  refine ret1 rfl rfl ?_
                  -- ret2 h21f h26f h31t h40f h50f h61f h64t h78t
                  exact hS.sc_b (by symm; exact stepOk_noset (by rw [setOpen, decide_eq_false (Pl.not_pairwise_at hlt (by omega) (by omega)), Bool.and_false, Bool.false_and]))
                · skip
                  try simp only [decide_eq_true_eq, decide_eq_false_iff_not, Bool.not_eq_true', Bool.not_eq_false', Bool.not_eq_eq_eq_not, Bool.not_true, Bool.not_false] at h78
                  refine cw_skip ?_
                  refine pq_in_normal ?_
                  refine pq_then ?_
                  refine cw_region ?_
                  -- r5.0 t32 := move  t7
                  refine ol_pure rfl (op_move rfl) ?_
                  -- r5.1 t33 := add t32 C1
                  refine ol_pure rfl (op_add rfl rfl (by omega) (by omega)) ?_
                  -- r5.2 t7 := assign  t33
                  refine ol_pure rfl (op_assign rfl) ?_
                  refine ol_nil ?_
                  -- end of round 1 h21f h26f h31t h40f h50f h61f h64t h78f
                  refine pq_loop _ _ (by exact ⟨k + 1, rfl, by omega, rfl, by rw [Pl.all_take_succ (fun a => decide (0 ≤ a) && decide (a < (m.length : Int)) && decide (valI m a = 1)) _ _ hlt, hpa, hvj]; simp; omega, Pl.pairwise_take_succ hlt hpw (.inr ⟨by omega, by omega⟩), hS⟩) ((Sub.cons rfl (Sub.cons rfl (Sub.cons rfl (Sub.cons rfl Sub.nil))))) (by omega)
              · skip
                try simp only [decide_eq_true_eq, decide_eq_false_iff_not, Bool.not_eq_true', Bool.not_eq_false', Bool.not_eq_eq_eq_not, Bool.not_true, Bool.not_false] at h64
                refine al_gskip (i := 31) rfl (by kernel_rfl) (by kernel_rfl) (by kernel_rfl) rfl rfl rfl rfl (fun _ _ _ h => h) (fun _ => hT) ?_
                refine al_gskip (i := 32) rfl (by kernel_rfl) (by kernel_rfl) (by kernel_rfl) rfl rfl rfl rfl (fun _ _ _ h => h) (fun _ => hT) ?_
                refine al_gskip (i := 33) rfl (by kernel_rfl) (by kernel_rfl) (by kernel_rfl) rfl rfl rfl rfl (fun _ _ _ h => h) (fun _ => hT) ?_
                refine al_gskip (i := 34) rfl (by kernel_rfl) (by kernel_rfl) (by kernel_rfl) rfl rfl rfl rfl (fun _ _ _ h => h) (fun _ => hT) ?_
                refine al_gskip (i := 35) rfl (by kernel_rfl) (by kernel_rfl) (by kernel_rfl) rfl rfl rfl rfl (fun _ _ _ h => h) (fun _ => hT) ?_
                refine al_gskip (i := 36) rfl (by kernel_rfl) (by kernel_rfl) (by kernel_rfl) rfl rfl rfl rfl (fun _ _ _ h => h) (fun _ => hT) ?_
                refine al_gskip (i := 37) rfl (by kernel_rfl) (by kernel_rfl) (by kernel_rfl) rfl rfl rfl rfl (fun _ _ _ h => h) (fun _ => hT) ?_
                refine al_gskip (i := 38) rfl (by kernel_rfl) (by kernel_rfl) (by kernel_rfl) rfl rfl rfl rfl (fun _ _ _ h => h) (fun _ => hT) ?_
                refine al_gskip (i := 39) rfl (by kernel_rfl) (by kernel_rfl) (by kernel_rfl) rfl rfl rfl rfl (fun _ _ _ h => h) (fun _ => hT) ?_
                refine al_gskip (i := 40) rfl (by kernel_rfl) (by kernel_rfl) (by kernel_rfl) rfl rfl rfl rfl (fun _ _ _ h => h) (fun _ => hT) ?_
                refine al_gskip (i := 41) rfl (by kernel_rfl) (by kernel_rfl) (by kernel_rfl) rfl rfl rfl rfl (fun _ _ _ h => h) (fun _ => hT) ?_
                refine al_gskip (i := 42) rfl (by kernel_rfl) (by kernel_rfl) (by kernel_rfl) rfl rfl rfl rfl (fun _ _ _ h => h) (fun _ => hT) ?_
                -- r6.43 t77 := pick  t64 t76 Cfalse ?27=False
                refine al_gtake (i := 43) rfl (by kernel_rfl) (by kernel_rfl) (by kernel_rfl) rfl rfl rfl (fun _ _ _ h => h) (op_pick_f rfl rfl) rfl ?_
                -- r6.44 t78 := pick  t61 Ctrue t77
                refine al_take (i := 44) rfl (by kernel_rfl) (by kernel_rfl) (by kernel_rfl) rfl (fun _ _ _ h => h) (op_pick_f rfl rfl) rfl ?_
                refine al_done (by kernel_rfl) ?_
                refine pq_then ?_
                refine cw_cond_f rfl ?_
                refine cw_skip ?_
                refine pq_in_normal ?_
                refine pq_then ?_
                refine cw_region ?_
                -- r5.0 t32 := move  t7
                refine ol_pure rfl (op_move rfl) ?_
                -- r5.1 t33 := add t32 C1
                refine ol_pure rfl (op_add rfl rfl (by omega) (by omega)) ?_
                -- r5.2 t7 := assign  t33
                refine ol_pure rfl (op_assign rfl) ?_
                refine ol_nil ?_
                -- end of round 1 h21f h26f h31t h40f h50f h61f h64f
                refine pq_loop _ _ (by exact ⟨k + 1, rfl, by omega, rfl, by rw [Pl.all_take_succ (fun a => decide (0 ≤ a) && decide (a < (m.length : Int)) && decide (valI m a = 1)) _ _ hlt, hpa, hvj]; simp; omega, Pl.pairwise_take_succ hlt hpw (.inl (by omega)), hS⟩) ((Sub.cons rfl (Sub.cons rfl (Sub.cons rfl (Sub.cons rfl Sub.nil))))) (by omega)
      · skip
        try simp only [decide_eq_true_eq, decide_eq_false_iff_not, Bool.not_eq_true', Bool.not_eq_false', Bool.not_eq_eq_eq_not, Bool.not_true, Bool.not_false] at h31
        rw [List.take_of_length_le (by omega)] at hpa hpw
        have hso : setOpen m s.atoms = true := by rw [setOpen, hpa, decide_eq_true hpw]; simp [hne]
        refine cw_exit ?_
        refine pq_exit ?_
        refine pq_exit ?_
        refine pq_in_exit ?_
        refine pq_then ?_
        refine cw_seq ?_
        refine cw_seq ?_
        refine cw_region ?_
        -- r8.0 t79 := fieldAddr [37, 0] t5
        refine ol_pure rfl (op_fieldAddr fld_37_0 rfl) ?_
        -- r8.1 t80 := load [3] t79
        refine ol_load rfl (op_load1 one_3 rfl (fun w hw => (hw.bcell (i := 0) rfl).trans rfl)) hS ?_
        -- r8.2 t81 := geq t80 C0
        refine ol_pure rfl (op_geq rfl rfl) ?_
        refine ol_nil ?_
        refine pq_then ?_
        refine cw_cond rfl (fun h81 => ?_) (fun h81 => ?_)
        · skip
          try simp only [decide_eq_true_eq, decide_eq_false_iff_not, Bool.not_eq_true', Bool.not_eq_false', Bool.not_eq_eq_eq_not, Bool.not_true, Bool.not_false] at h81
          obtain ⟨x, hx'⟩ := Int.eq_ofNat_of_zero_le h81
          have hx : x < rs.length := by omega
          have hrk := (hP.rule _ (List.getElem_mem hx)).1
          obtain ⟨hoR, cs, hcl, ⟨p, q, rfl, hp, hq, hhd⟩, hcells⟩ := h2.el hx
          obtain ⟨op, cp, hpe, hlp, hmp⟩ := hp.elim
          obtain ⟨oq, cq, hqe, hlq, hmq⟩ := hq.elim
          subst hpe
          subst hqe
          have hple := hp.le
          have hrm : RuleOk m.length rs[x] := by rw [hm]; exact hrk
          have hcells2 : ∀ (j : Nat) (u : Value), [Value.int .i64 rs[x].head, .slice op rs[x].pos.length cp, .slice oq rs[x].neg.length cq][j]? = some u → gcell G ((elA oR (s.rule.toNat * 3)).add j) = some u := by rw [hx']; exact hcells
          have hby := stepOk_byrule (m := m) hx' hx
          obtain ⟨hoS, hcS, _⟩ := h4.int hne
          rw [hso, Bool.true_and] at hby
          refine cw_seq ?_
          refine cw_region ?_
          -- r9.0 t82 := fieldAddr [26, 1] t3
          refine ol_pure rfl (op_fieldAddr fld_26_1 rfl) ?_
          -- r9.1 t83 := load [22] t82
          refine ol_load rfl (op_load1 one_22 rfl (fun w hw => (hw.bcell (i := 1) rfl).trans rfl)) hS ?_
          -- r9.2 t84 := fieldAddr [37, 0] t5
          refine ol_pure rfl (op_fieldAddr fld_37_0 rfl) ?_
          -- r9.3 t85 := load [3] t84
          refine ol_load rfl (op_load1 one_3 rfl (fun w hw => (hw.bcell (i := 0) rfl).trans rfl)) hS ?_
          -- r9.4 t86 := indexAddr [22] t83 t85
          refine ol_pure rfl (op_indexAddr sl_22 rfl rfl (by omega) (by omega) hoR) ?_
          -- r9.5 t87 := load [30] t86
          refine ol_load rfl (op_loadN agg_30 rfl (by rfl) (fun w hw k u hk => hw.gcell (hcells2 _ u hk))) hS ?_
          -- r9.6 t8 := alloc [30] 
          refine ol_step rfl (op_alloc hS el_30 rfl) ?_
          clear hS
          rintro _ w ⟨b8, rfl, hS⟩
          -- r9.7 _ := store [30] t8 t87
          refine ol_step0  (op_storeN (j := 0) hS sz_30 rfl rfl rfl rfl rfl (by simp [Value.oneCell'])) ?_
          clear hS
          rintro _ w hS; (try simp only [List.nil_append, List.cons_append, List.set] at hS)
          refine ol_nil ?_
          refine pq_then ?_
          refine cw_seq ?_
          refine al_start' hS (hS.take 2) (by kernel_rfl) rfl (fun w hS hT => ?_)
          -- r10.0 t88 := fieldAddr [37, 1] t5
          refine al_take (i := 0) rfl (by kernel_rfl) (by kernel_rfl) (by kernel_rfl) rfl (fun _ _ _ h => h) (op_fieldAddr fld_37_1 rfl) rfl ?_
          -- r10.1 t89 := load [28] t88
          refine al_load (i := 1) rfl (by kernel_rfl) (by kernel_rfl) (by kernel_rfl) rfl (fun _ _ _ h => h) (by exact op_load1 one_28 rfl (fun w hw => (hw.bcell (i := 1) rfl).trans rfl)) rfl hT ?_
          -- r10.2 t90 := call len t89
          refine al_take (i := 2) rfl (by kernel_rfl) (by kernel_rfl) (by kernel_rfl) rfl (fun _ _ _ h => h) (op_len sl_28 rfl rfl) rfl ?_
          -- r10.3 t91 := eql t90 C1
          refine al_take (i := 3) rfl (by kernel_rfl) (by kernel_rfl) (by kernel_rfl) rfl (fun _ _ _ h => h) (op_eql rfl rfl) rfl ?_
          -- r10.4 t92 := move  t91
          refine al_take (i := 4) rfl (by kernel_rfl) (by kernel_rfl) (by kernel_rfl) rfl (fun _ _ _ h => h) (op_move rfl) rfl ?_
          refine al_split (fun h92 => ?_) (fun h92 => ?_)
          · skip
            try simp only [decide_eq_true_eq, decide_eq_false_iff_not, Bool.not_eq_true', Bool.not_eq_false', Bool.not_eq_eq_eq_not, Bool.not_true, Bool.not_false] at h92
            have hone : (s.atoms[0] = rs[x].head) = (s.atoms = [rs[x].head]) := one_eq (by omega) hne
            -- r10.5 t93 := fieldAddr [37, 1] t5 ?4=True
            refine al_gtake (i := 5) rfl (by kernel_rfl) (by kernel_rfl) (by kernel_rfl) rfl rfl rfl (fun _ _ _ h => h) (op_fieldAddr fld_37_1 rfl) rfl ?_
            -- r10.6 t94 := load [28] t93 ?4=True
            refine al_gload (i := 6) rfl (by kernel_rfl) (by kernel_rfl) (by kernel_rfl) rfl rfl rfl (fun _ _ _ h => h) (by exact op_load1 one_28 rfl (fun w hw => (hw.bcell (i := 1) rfl).trans rfl)) rfl hT ?_
            -- r10.7 t95 := indexAddr [28] t94 C0 ?4=True
            refine al_gtake (i := 7) rfl (by kernel_rfl) (by kernel_rfl) (by kernel_rfl) rfl rfl rfl (fun _ _ _ h => h) (op_indexN (i := 0) sl_28 rfl rfl (by omega) hoS) rfl ?_
            -- r10.8 t96 := load [3] t95 ?4=True
            refine al_gload (i := 8) rfl (by kernel_rfl) (by kernel_rfl) (by kernel_rfl) rfl rfl rfl (fun _ _ _ h => h) (by exact op_load1 one_3 rfl (fun w hw => hw.gcell hcS)) rfl hT ?_
            -- r10.9 t97 := fieldAddr [30, 0] t8 ?4=True
            refine al_gtake (i := 9) rfl (by kernel_rfl) (by kernel_rfl) (by kernel_rfl) rfl rfl rfl (fun _ _ _ h => h) (op_fieldAddr fld_30_0 rfl) rfl ?_
            -- r10.10 t98 := load [3] t97 ?4=True
            refine al_gload (i := 10) rfl (by kernel_rfl) (by kernel_rfl) (by kernel_rfl) rfl rfl rfl (fun _ _ _ h => h) (by exact op_load1 one_3 rfl (fun w hw => (hw.bcell (i := 0) rfl).trans rfl)) rfl hT ?_
            -- r10.11 t99 := eql t96 t98 ?4=True
            refine al_gtake (i := 11) rfl (by kernel_rfl) (by kernel_rfl) (by kernel_rfl) rfl rfl rfl (fun _ _ _ h => h) (op_eql rfl rfl) rfl ?_
            -- r10.12 t100 := pick  t92 t99 Cfalse
            refine al_take (i := 12) rfl (by kernel_rfl) (by kernel_rfl) (by kernel_rfl) rfl (fun _ _ _ h => h) (op_pick_t rfl rfl) rfl ?_
            -- r10.13 t101 := move  t100
            refine al_take (i := 13) rfl (by kernel_rfl) (by kernel_rfl) (by kernel_rfl) rfl (fun _ _ _ h => h) (op_move rfl) rfl ?_
            refine al_split (fun h101 => ?_) (fun h101 => ?_)
            · skip
              try simp only [decide_eq_true_eq, decide_eq_false_iff_not, Bool.not_eq_true', Bool.not_eq_false', Bool.not_eq_eq_eq_not, Bool.not_true, Bool.not_false] at h101
              -- r10.14 t102 := move  t1 ?13=True
              refine al_gtake (i := 14) rfl (by kernel_rfl) (by kernel_rfl) (by kernel_rfl) rfl rfl rfl (fun _ _ _ h => h) (op_move rfl) rfl ?_
              -- r10.15 t103 := fieldAddr [30, 1] t8 ?13=True
              refine al_gtake (i := 15) rfl (by kernel_rfl) (by kernel_rfl) (by kernel_rfl) rfl rfl rfl (fun _ _ _ h => h) (op_fieldAddr fld_30_1 rfl) rfl ?_
              -- r10.16 t104 := load [28] t103 ?13=True
              refine al_gload (i := 16) rfl (by kernel_rfl) (by kernel_rfl) (by kernel_rfl) rfl rfl rfl (fun _ _ _ h => h) (by exact op_load1 one_28 rfl (fun w hw => (hw.bcell (i := 0) rfl).trans rfl)) rfl hT ?_
              refine al_gstep (i := 17) rfl (by kernel_rfl) rfl rfl rfl (op_call_sc hS cf_27 rfl (R21_All_c G _ hS.hold _ m h3 _ rs[x].pos 2 hp hrm.2.1)) ?_
              clear hS
              rintro _ w ⟨rfl, hS⟩
              have hT := hT.back hS (by first | exact Le.refl _ | assumption) (fun x hx => by try simp only [List.take_succ_cons, List.take_zero, List.mem_cons, List.not_mem_nil, or_false] at hx; (rcases hx with rfl | rfl) <;> simp)
              refine ⟨fun _ _ => hT, ?_⟩
              -- r10.18 t106 := pick  t101 t105 Cfalse
              refine al_take (i := 18) rfl (by kernel_rfl) (by kernel_rfl) (by kernel_rfl) rfl (fun _ _ _ h => h) (op_pick_t rfl rfl) rfl ?_
              -- r10.19 t107 := move  t106
              refine al_take (i := 19) rfl (by kernel_rfl) (by kernel_rfl) (by kernel_rfl) rfl (fun _ _ _ h => h) (op_move rfl) rfl ?_
              refine al_split (fun h107 => ?_) (fun h107 => ?_)
              · skip
                try simp only [decide_eq_true_eq, decide_eq_false_iff_not, Bool.not_eq_true', Bool.not_eq_false', Bool.not_eq_eq_eq_not, Bool.not_true, Bool.not_false] at h107
                -- r10.20 t108 := move  t1 ?19=True
                refine al_gtake (i := 20) rfl (by kernel_rfl) (by kernel_rfl) (by kernel_rfl) rfl rfl rfl (fun _ _ _ h => h) (op_move rfl) rfl ?_
                -- r10.21 t109 := fieldAddr [30, 2] t8 ?19=True
                refine al_gtake (i := 21) rfl (by kernel_rfl) (by kernel_rfl) (by kernel_rfl) rfl rfl rfl (fun _ _ _ h => h) (op_fieldAddr fld_30_2 rfl) rfl ?_
                -- r10.22 t110 := load [28] t109 ?19=True
                refine al_gload (i := 22) rfl (by kernel_rfl) (by kernel_rfl) (by kernel_rfl) rfl rfl rfl (fun _ _ _ h => h) (by exact op_load1 one_28 rfl (fun w hw => (hw.bcell (i := 0) rfl).trans rfl)) rfl hT ?_
                refine al_gstep (i := 23) rfl (by kernel_rfl) rfl rfl rfl (op_call_sc hS cf_27 rfl (R21_All_c G _ hS.hold _ m h3 _ rs[x].neg 0 hq hrm.2.2)) ?_
                clear hS
                rintro _ w ⟨rfl, hS⟩
                have hT := hT.back hS (by first | exact Le.refl _ | assumption) (fun x hx => by try simp only [List.take_succ_cons, List.take_zero, List.mem_cons, List.not_mem_nil, or_false] at hx; (rcases hx with rfl | rfl) <;> simp)
                refine ⟨fun _ _ => hT, ?_⟩
                -- r10.24 t112 := pick  t107 t111 Cfalse
                refine al_take (i := 24) rfl (by kernel_rfl) (by kernel_rfl) (by kernel_rfl) rfl (fun _ _ _ h => h) (op_pick_t rfl rfl) rfl ?_
                -- r10.25 t6 := assign  t112
                refine al_take (i := 25) rfl (by kernel_rfl) (by kernel_rfl) (by kernel_rfl) rfl (fun _ _ _ h => h) (op_assign rfl) rfl ?_
                refine al_done (by kernel_rfl) ?_
                refine pq_then ?_
                refine cw_ret ?_
                refine pq_ret ?_
                refine ret1 rfl rfl ?_
                -- ret3 h21f h26f h31f h81t h92t h101t h107t
                exact hS.sc_b (by rw [hby]; simp_all [firesB])
              · skip
                try simp only [decide_eq_true_eq, decide_eq_false_iff_not, Bool.not_eq_true', Bool.not_eq_false', Bool.not_eq_eq_eq_not, Bool.not_true, Bool.not_false] at h107
                refine al_gskip (i := 20) rfl (by kernel_rfl) (by kernel_rfl) (by kernel_rfl) rfl rfl rfl rfl (fun _ _ _ h => h) (fun _ => hT) ?_
                refine al_gskip (i := 21) rfl (by kernel_rfl) (by kernel_rfl) (by kernel_rfl) rfl rfl rfl rfl (fun _ _ _ h => h) (fun _ => hT) ?_
                refine al_gskip (i := 22) rfl (by kernel_rfl) (by kernel_rfl) (by kernel_rfl) rfl rfl rfl rfl (fun _ _ _ h => h) (fun _ => hT) ?_
                refine al_gskip (i := 23) rfl (by kernel_rfl) (by kernel_rfl) (by kernel_rfl) rfl rfl rfl rfl (fun _ _ _ h => h) (fun _ => hT) ?_
                -- r10.24 t112 := pick  t107 t111 Cfalse
                refine al_take (i := 24) rfl (by kernel_rfl) (by kernel_rfl) (by kernel_rfl) rfl (fun _ _ _ h => h) (op_pick_f rfl rfl) rfl ?_
                -- r10.25 t6 := assign  t112
                refine al_take (i := 25) rfl (by kernel_rfl) (by kernel_rfl) (by kernel_rfl) rfl (fun _ _ _ h => h) (op_assign rfl) rfl ?_
                refine al_done (by kernel_rfl) ?_
                refine pq_then ?_
                refine cw_ret ?_
                refine pq_ret ?_
                refine ret1 rfl rfl ?_
                -- ret3 h21f h26f h31f h81t h92t h101t h107f
                exact hS.sc_b (by rw [hby]; simp_all [firesB])
            · skip
              try simp only [decide_eq_true_eq, decide_eq_false_iff_not, Bool.not_eq_true', Bool.not_eq_false', Bool.not_eq_eq_eq_not, Bool.not_true, Bool.not_false] at h101
              refine al_gskip (i := 14) rfl (by kernel_rfl) (by kernel_rfl) (by kernel_rfl) rfl rfl rfl rfl (fun _ _ _ h => h) (fun _ => hT) ?_
              refine al_gskip (i := 15) rfl (by kernel_rfl) (by kernel_rfl) (by kernel_rfl) rfl rfl rfl rfl (fun _ _ _ h => h) (fun _ => hT) ?_
              refine al_gskip (i := 16) rfl (by kernel_rfl) (by kernel_rfl) (by kernel_rfl) rfl rfl rfl rfl (fun _ _ _ h => h) (fun _ => hT) ?_
              refine al_gskip (i := 17) rfl (by kernel_rfl) (by kernel_rfl) (by kernel_rfl) rfl rfl rfl rfl (fun _ _ _ h => h) (fun _ => hT) ?_
              -- r10.18 t106 := pick  t101 t105 Cfalse
              refine al_take (i := 18) rfl (by kernel_rfl) (by kernel_rfl) (by kernel_rfl) rfl (fun _ _ _ h => h) (op_pick_f rfl rfl) rfl ?_
              -- r10.19 t107 := move  t106
              refine al_take (i := 19) rfl (by kernel_rfl) (by kernel_rfl) (by kernel_rfl) rfl (fun _ _ _ h => h) (op_move rfl) rfl ?_
              refine al_gskip (i := 20) rfl (by kernel_rfl) (by kernel_rfl) (by kernel_rfl) rfl rfl rfl rfl (fun _ _ _ h => h) (fun _ => hT) ?_
              refine al_gskip (i := 21) rfl (by kernel_rfl) (by kernel_rfl) (by kernel_rfl) rfl rfl rfl rfl (fun _ _ _ h => h) (fun _ => hT) ?_
              refine al_gskip (i := 22) rfl (by kernel_rfl) (by kernel_rfl) (by kernel_rfl) rfl rfl rfl rfl (fun _ _ _ h => h) (fun _ => hT) ?_
              refine al_gskip (i := 23) rfl (by kernel_rfl) (by kernel_rfl) (by kernel_rfl) rfl rfl rfl rfl (fun _ _ _ h => h) (fun _ => hT) ?_
              -- r10.24 t112 := pick  t107 t111 Cfalse
              refine al_take (i := 24) rfl (by kernel_rfl) (by kernel_rfl) (by kernel_rfl) rfl (fun _ _ _ h => h) (op_pick_f rfl rfl) rfl ?_
              -- r10.25 t6 := assign  t112
              refine al_take (i := 25) rfl (by kernel_rfl) (by kernel_rfl) (by kernel_rfl) rfl (fun _ _ _ h => h) (op_assign rfl) rfl ?_
              refine al_done (by kernel_rfl) ?_
              refine pq_then ?_
              refine cw_ret ?_
              refine pq_ret ?_
              refine ret1 rfl rfl ?_
              -- ret3 h21f h26f h31f h81t h92t h101f
              exact hS.sc_b (by rw [hby, decide_eq_false (by rw [← hone]; exact h101)]; simp)
          · skip
            try simp only [decide_eq_true_eq, decide_eq_false_iff_not, Bool.not_eq_true', Bool.not_eq_false', Bool.not_eq_eq_eq_not, Bool.not_true, Bool.not_false] at h92
            have hne1 : ¬ s.atoms = [rs[x].head] := fun hh => h92 (by rw [hh]; rfl)
            refine al_gskip (i := 5) rfl (by kernel_rfl) (by kernel_rfl) (by kernel_rfl) rfl rfl rfl rfl (fun _ _ _ h => h) (fun _ => hT) ?_
            refine al_gskip (i := 6) rfl (by kernel_rfl) (by kernel_rfl) (by kernel_rfl) rfl rfl rfl rfl (fun _ _ _ h => h) (fun _ => hT) ?_
            refine al_gskip (i := 7) rfl (by kernel_rfl) (by kernel_rfl) (by kernel_rfl) rfl rfl rfl rfl (fun _ _ _ h => h) (fun _ => hT) ?_
            refine al_gskip (i := 8) rfl (by kernel_rfl) (by kernel_rfl) (by kernel_rfl) rfl rfl rfl rfl (fun _ _ _ h => h) (fun _ => hT) ?_
            refine al_gskip (i := 9) rfl (by kernel_rfl) (by kernel_rfl) (by kernel_rfl) rfl rfl rfl rfl (fun _ _ _ h => h) (fun _ => hT) ?_
            refine al_gskip (i := 10) rfl (by kernel_rfl) (by kernel_rfl) (by kernel_rfl) rfl rfl rfl rfl (fun _ _ _ h => h) (fun _ => hT) ?_
            refine al_gskip (i := 11) rfl (by kernel_rfl) (by kernel_rfl) (by kernel_rfl) rfl rfl rfl rfl (fun _ _ _ h => h) (fun _ => hT) ?_
            -- r10.12 t100 := pick  t92 t99 Cfalse
            refine al_take (i := 12) rfl (by kernel_rfl) (by kernel_rfl) (by kernel_rfl) rfl (fun _ _ _ h => h) (op_pick_f rfl rfl) rfl ?_
            -- r10.13 t101 := move  t100
            refine al_take (i := 13) rfl (by kernel_rfl) (by kernel_rfl) (by kernel_rfl) rfl (fun _ _ _ h => h) (op_move rfl) rfl ?_
            refine al_gskip (i := 14) rfl (by kernel_rfl) (by kernel_rfl) (by kernel_rfl) rfl rfl rfl rfl (fun _ _ _ h => h) (fun _ => hT) ?_
            refine al_gskip (i := 15) rfl (by kernel_rfl) (by kernel_rfl) (by kernel_rfl) rfl rfl rfl rfl (fun _ _ _ h => h) (fun _ => hT) ?_
            refine al_gskip (i := 16) rfl (by kernel_rfl) (by kernel_rfl) (by kernel_rfl) rfl rfl rfl rfl (fun _ _ _ h => h) (fun _ => hT) ?_
            refine al_gskip (i := 17) rfl (by kernel_rfl) (by kernel_rfl) (by kernel_rfl) rfl rfl rfl rfl (fun _ _ _ h => h) (fun _ => hT) ?_
            -- r10.18 t106 := pick  t101 t105 Cfalse
            refine al_take (i := 18) rfl (by kernel_rfl) (by kernel_rfl) (by kernel_rfl) rfl (fun _ _ _ h => h) (op_pick_f rfl rfl) rfl ?_
            -- r10.19 t107 := move  t106
            refine al_take (i := 19) rfl (by kernel_rfl) (by kernel_rfl) (by kernel_rfl) rfl (fun _ _ _ h => h) (op_move rfl) rfl ?_
            refine al_gskip (i := 20) rfl (by kernel_rfl) (by kernel_rfl) (by kernel_rfl) rfl rfl rfl rfl (fun _ _ _ h => h) (fun _ => hT) ?_
            refine al_gskip (i := 21) rfl (by kernel_rfl) (by kernel_rfl) (by kernel_rfl) rfl rfl rfl rfl (fun _ _ _ h => h) (fun _ => hT) ?_
            refine al_gskip (i := 22) rfl (by kernel_rfl) (by kernel_rfl) (by kernel_rfl) rfl rfl rfl rfl (fun _ _ _ h => h) (fun _ => hT) ?_
            refine al_gskip (i := 23) rfl (by kernel_rfl) (by kernel_rfl) (by kernel_rfl) rfl rfl rfl rfl (fun _ _ _ h => h) (fun _ => hT) ?_
            -- r10.24 t112 := pick  t107 t111 Cfalse
            refine al_take (i := 24) rfl (by kernel_rfl) (by kernel_rfl) (by kernel_rfl) rfl (fun _ _ _ h => h) (op_pick_f rfl rfl) rfl ?_
            -- r10.25 t6 := assign  t112
            refine al_take (i := 25) rfl (by kernel_rfl) (by kernel_rfl) (by kernel_rfl) rfl (fun _ _ _ h => h) (op_assign rfl) rfl ?_
            refine al_done (by kernel_rfl) ?_
            refine pq_then ?_
            refine cw_ret ?_
            refine pq_ret ?_
            refine ret1 rfl rfl ?_
            -- ret3 h21f h26f h31f h81t h92f
            exact hS.sc_b (by rw [hby, decide_eq_false hne1]; simp)
        · skip
          try simp only [decide_eq_true_eq, decide_eq_false_iff_not, Bool.not_eq_true', Bool.not_eq_false', Bool.not_eq_eq_eq_not, Bool.not_true, Bool.not_false] at h81
          refine cw_skip ?_
          refine pq_then ?_
          refine cw_seq ?_
          refine cw_seq ?_
          refine cw_region ?_
          -- r11.0 t9 := assign  C0
          refine ol_pure rfl (op_assign rfl) ?_
          refine ol_nil ?_
          refine pq_then ?_
          refine cw_block ?_
          refine cw_loop (fun e w n => ∃ (j : Nat) (Gk : GH), e = [(1, .slice oM m.length cM), (3, .pointer (some ⟨b3, 0, none⟩)), (5, .pointer (some ⟨b5, 0, none⟩)), (9, .int .i64 (j : Nat))] ∧ j ≤ s.atoms.length ∧ n = s.atoms.length - j ∧ (∀ (y : Nat) (hy : y < j), y < s.atoms.length → ∀ i ∈ ofI rs (s.atoms.getD y 0), tiedB rs m s.atoms i = true) ∧ Le G Gk ∧ SS G w0 Gk [.blk b5 37 [.int .i64 s.rule, .slice oS s.atoms.length cS], .blk b3 26 [.slice oA atoms.length cA, .slice oR rs.length cR]] w) _ _ (by exact ⟨0, G, rfl, Nat.zero_le _, rfl, fun y hy => absurd hy (Nat.not_lt_zero _), Le.refl _, hS⟩) ((Sub.cons rfl (Sub.cons rfl (Sub.cons rfl (Sub.cons rfl Sub.nil))))) ?_
          clear hS
          rintro e w n ⟨j, Gk, rfl, hj, rfl, hfa, hlk, hS⟩
          refine cw_seq ?_
          refine cw_seq ?_
          refine cw_region ?_
          -- r12.0 t113 := move  t9
          refine ol_pure rfl (op_move rfl) ?_
          -- r12.1 t114 := fieldAddr [37, 1] t5
          refine ol_pure rfl (op_fieldAddr fld_37_1 rfl) ?_
          -- r12.2 t115 := load [28] t114
          refine ol_load rfl (op_load1 one_28 rfl (fun w hw => (hw.bcell (i := 0) rfl).trans rfl)) hS ?_
          -- r12.3 t116 := call len t115
          refine ol_pure rfl (op_len sl_28 rfl rfl) ?_
          -- r12.4 t117 := lss t113 t116
          refine ol_pure rfl (op_lss rfl rfl) ?_
          refine ol_nil ?_
          refine pq_then ?_
          refine cw_cond rfl (fun h117 => ?_) (fun h117 => ?_)
          · skip
            try simp only [decide_eq_true_eq, decide_eq_false_iff_not, Bool.not_eq_true', Bool.not_eq_false', Bool.not_eq_eq_eq_not, Bool.not_true, Bool.not_false] at h117
            have hjl : j < s.atoms.length := by omega
            obtain ⟨hoa, hcl, hb⟩ := h4.int hjl
            refine cw_skip ?_
            refine pq_then ?_
            refine cw_seq ?_
            refine cw_block ?_
            refine cw_seq ?_
            refine al_start' hS (hS.take 2) (by kernel_rfl) rfl (fun w hS hT => ?_)
            -- r14.0 t120 := load [26] t3
            refine al_load (i := 0) rfl (by kernel_rfl) (by kernel_rfl) (by kernel_rfl) rfl (fun _ _ _ h => h) (by exact op_loadN agg_26 rfl (by rfl) (fun w hw k u hk => (hw.bcell (i := 1) rfl).trans hk)) rfl hT ?_
            -- r14.1 t121 := fieldAddr [37, 1] t5
            refine al_take (i := 1) rfl (by kernel_rfl) (by kernel_rfl) (by kernel_rfl) rfl (fun _ _ _ h => h) (op_fieldAddr fld_37_1 rfl) rfl ?_
            -- r14.2 t122 := load [28] t121
            refine al_load (i := 2) rfl (by kernel_rfl) (by kernel_rfl) (by kernel_rfl) rfl (fun _ _ _ h => h) (by exact op_load1 one_28 rfl (fun w hw => (hw.bcell (i := 0) rfl).trans rfl)) rfl hT ?_
            -- r14.3 t123 := move  t9
            refine al_take (i := 3) rfl (by kernel_rfl) (by kernel_rfl) (by kernel_rfl) rfl (fun _ _ _ h => h) (op_move rfl) rfl ?_
            -- r14.4 t124 := indexAddr [28] t122 t123
            refine al_take (i := 4) rfl (by kernel_rfl) (by kernel_rfl) (by kernel_rfl) rfl (fun _ _ _ h => h) (op_indexN sl_28 rfl rfl (by omega) hoa) rfl ?_
            -- r14.5 t125 := load [3] t124
            refine al_load (i := 5) rfl (by kernel_rfl) (by kernel_rfl) (by kernel_rfl) rfl (fun _ _ _ h => h) (by exact op_load1 one_3 rfl (fun w hw => hw.gcell0 hcl)) rfl hT ?_
            refine al_step (i := 6) rfl (by kernel_rfl) rfl (op_call_fr hS cf_56 rfl (R16_Of_c _ _ hS.hold hE _ _ atoms rs (h1.mono hE hlk) (h2.mono ERule.mono hlk) hP s.atoms[j])) ?_
            clear hS
            rintro v126 w ⟨F126, Gf, hR126, hF126, hf126, hl126, hS⟩
            obtain ⟨o126, c126, rfl, _, _⟩ := hR126.elim
            have hOf := hR126.mono EInt.mono hf126
            have hOle := hOf.le
            have hlf := hlk.trans hl126
            have hT := hT.back hS (by first | exact Le.refl _ | assumption) (fun x hx => by try simp only [List.take_succ_cons, List.take_zero, List.mem_cons, List.not_mem_nil, or_false] at hx; (rcases hx with rfl | rfl) <;> simp)
            refine ⟨fun _ _ => hT, ?_⟩
            -- r14.7 t10 := assign  t126
            refine al_take (i := 7) rfl (by kernel_rfl) (by kernel_rfl) (by kernel_rfl) rfl (fun _ _ _ h => h) (op_assign rfl) rfl ?_
            refine al_done (by kernel_rfl) ?_
            refine pq_then ?_
            refine cw_seq ?_
            refine cw_region ?_
            -- r15.0 t11 := assign  C0
            refine ol_pure rfl (op_assign rfl) ?_
            refine ol_nil ?_
            refine pq_then ?_
            refine cw_block ?_
            refine cw_loop (fun e w n => ∃ (q : Nat), e = [(1, .slice oM m.length cM), (3, .pointer (some ⟨b3, 0, none⟩)), (5, .pointer (some ⟨b5, 0, none⟩)), (9, .int .i64 (j : Nat)), (10, .slice o126 (ofI rs s.atoms[j]).length c126), (11, .int .i64 (q : Nat))] ∧ q ≤ (ofI rs s.atoms[j]).length ∧ n = (ofI rs s.atoms[j]).length - q ∧ (∀ (y : Nat) (hy : y < q), y < (ofI rs s.atoms[j]).length → tiedB rs m s.atoms ((ofI rs s.atoms[j]).getD y 0) = true) ∧ SS G w0 Gf [.blk b5 37 [.int .i64 s.rule, .slice oS s.atoms.length cS], .blk b3 26 [.slice oA atoms.length cA, .slice oR rs.length cR]] w) _ _ (by exact ⟨0, rfl, Nat.zero_le _, rfl, fun y hy => absurd hy (Nat.not_lt_zero _), hS⟩) ((Sub.cons rfl (Sub.cons rfl (Sub.cons rfl (Sub.cons rfl (Sub.cons rfl (Sub.cons rfl Sub.nil))))))) ?_
            clear hS
            rintro e w n ⟨q, rfl, hq0, rfl, hfq, hS⟩
            refine cw_seq ?_
            refine cw_seq ?_
            refine cw_region ?_
            -- r16.0 t127 := move  t11
            refine ol_pure rfl (op_move rfl) ?_
            -- r16.1 t128 := move  t10
            refine ol_pure rfl (op_move rfl) ?_
            -- r16.2 t129 := call len t128
            refine ol_pure rfl (op_len sl_28 rfl rfl) ?_
            -- r16.3 t130 := lss t127 t129
            refine ol_pure rfl (op_lss rfl rfl) ?_
            refine ol_nil ?_
            refine pq_then ?_
            refine cw_cond rfl (fun h130 => ?_) (fun h130 => ?_)
            · skip
              try simp only [decide_eq_true_eq, decide_eq_false_iff_not, Bool.not_eq_true', Bool.not_eq_false', Bool.not_eq_eq_eq_not, Bool.not_true, Bool.not_false] at h130
              have hql : q < (ofI rs s.atoms[j]).length := by omega
              obtain ⟨hoF, hcF, hbF⟩ := hOf.int hql
              obtain ⟨x, hx, hxe, hxh⟩ := ofI_mem (List.getElem_mem hql)
              have hrk := (hP.rule _ (List.getElem_mem hx)).1
              obtain ⟨hoR, cs, hcl, ⟨p, r, rfl, hp, hq, hhd⟩, hcells⟩ := h2.el hx
              obtain ⟨op, cp, hpe, hlp, hmp⟩ := hp.elim
              obtain ⟨oq, cq, hqe, hlq, hmq⟩ := hq.elim
              subst hpe
              subst hqe
              have hple := hp.le
              have hrm : RuleOk m.length rs[x] := by rw [hm]; exact hrk
              have htd : tiedB rs m s.atoms ((ofI rs s.atoms[j]).getD q 0) = ((hasB m rs[x].pos 0 || hasB m rs[x].neg 2) || rs[x].pos.any (fun p => decide (p ∈ s.atoms))) := by
                have : (ofI rs s.atoms[j]).getD q 0 = (x : Int) := by simp [hql, hxe]
                rw [this, tiedB_at hx]
              have hxe2 : (ofI rs s.atoms[j]).getD q 0 = (ofI rs s.atoms[j])[q] := by simp [hql]
              refine cw_skip ?_
              refine pq_then ?_
              refine cw_seq ?_
              refine cw_block ?_
              refine cw_seq ?_
              refine al_start' hS (hS.take 2) (by kernel_rfl) rfl (fun w hS hT => ?_)
              -- r18.0 t133 := fieldAddr [26, 1] t3
              refine al_take (i := 0) rfl (by kernel_rfl) (by kernel_rfl) (by kernel_rfl) rfl (fun _ _ _ h => h) (op_fieldAddr fld_26_1 rfl) rfl ?_
              -- r18.1 t134 := load [22] t133
              refine al_load (i := 1) rfl (by kernel_rfl) (by kernel_rfl) (by kernel_rfl) rfl (fun _ _ _ h => h) (by exact op_load1 one_22 rfl (fun w hw => (hw.bcell (i := 1) rfl).trans rfl)) rfl hT ?_
              -- r18.2 t135 := move  t10
              refine al_take (i := 2) rfl (by kernel_rfl) (by kernel_rfl) (by kernel_rfl) rfl (fun _ _ _ h => h) (op_move rfl) rfl ?_
              -- r18.3 t136 := move  t11
              refine al_take (i := 3) rfl (by kernel_rfl) (by kernel_rfl) (by kernel_rfl) rfl (fun _ _ _ h => h) (op_move rfl) rfl ?_
              -- r18.4 t137 := indexAddr [28] t135 t136
              refine al_take (i := 4) rfl (by kernel_rfl) (by kernel_rfl) (by kernel_rfl) rfl (fun _ _ _ h => h) (op_indexN sl_28 rfl rfl (by omega) hoF) rfl ?_
              -- r18.5 t138 := load [3] t137
              refine al_load (i := 5) rfl (by kernel_rfl) (by kernel_rfl) (by kernel_rfl) rfl (fun _ _ _ h => h) (by exact op_load1 one_3 rfl (fun w hw => (hw.gcell hcF).trans (by rw [hxe]))) rfl hT ?_
              -- r18.6 t139 := indexAddr [22] t134 t138
              refine al_take (i := 6) rfl (by kernel_rfl) (by kernel_rfl) (by kernel_rfl) rfl (fun _ _ _ h => h) (op_indexN sl_22 rfl rfl (by omega) hoR) rfl ?_
              -- r18.7 t140 := load [30] t139
              refine al_load (i := 7) rfl (by kernel_rfl) (by kernel_rfl) (by kernel_rfl) rfl (fun _ _ _ h => h) (by exact op_loadN agg_30 rfl (by rfl) (fun w hw k u hk => hw.gcell0 (hcells _ u hk))) rfl hT ?_
              refine al_step (i := 8) rfl (by kernel_rfl) rfl (op_alloc hS el_30 rfl) ?_
              clear hS
              rintro _ w ⟨b12, rfl, hS⟩
              have hT := hT.back hS (by first | exact Le.refl _ | assumption) (fun x hx => by try simp only [List.take_succ_cons, List.take_zero, List.mem_cons, List.not_mem_nil, or_false] at hx; (rcases hx with rfl | rfl) <;> simp)
              refine ⟨fun _ _ => hT, ?_⟩
              refine al_step0 (i := 9) rfl (by kernel_rfl) (op_storeN (j := 0) hS sz_30 rfl rfl rfl rfl rfl (by simp [Value.oneCell'])) ?_
              clear hS
              rintro _ w hS; (try simp only [List.nil_append, List.cons_append, List.set] at hS)
              refine ⟨no_need (by kernel_rfl), ?_⟩
              refine al_done (by kernel_rfl) ?_
              refine pq_then ?_
              refine cw_seq ?_
              refine cw_region ?_
              -- r19.0 t141 := move  t1
              refine ol_pure rfl (op_move rfl) ?_
              -- r19.1 t142 := fieldAddr [30, 1] t12
              refine ol_pure rfl (op_fieldAddr fld_30_1 rfl) ?_
              -- r19.2 t143 := load [28] t142
              refine ol_load rfl (op_load1 one_28 rfl (fun w hw => (hw.bcell (i := 0) rfl).trans rfl)) hS ?_
              -- r19.3 t144 := call f57 t141 t143 C0
              refine ol_step rfl (op_call_sc hS cf_57 rfl (R21_Any_c G _ (hS.hold.mono hlf) _ m h3 _ rs[x].pos 0 hp hrm.2.1)) ?_
              clear hS
              rintro _ w ⟨rfl, hS⟩
              -- r19.4 t145 := move  t144
              refine ol_pure rfl (op_move rfl) ?_
              refine ol_split (fun h145 => ?_) (fun h145 => ?_)
              · skip
                try simp only [decide_eq_true_eq, decide_eq_false_iff_not, Bool.not_eq_true', Bool.not_eq_false', Bool.not_eq_eq_eq_not, Bool.not_true, Bool.not_false] at h145
                refine ol_guard_no rfl rfl rfl rfl ?_
                refine ol_guard_no rfl rfl rfl rfl ?_
                refine ol_guard_no rfl rfl rfl rfl ?_
                refine ol_guard_no rfl rfl rfl rfl ?_
                -- r19.9 t150 := pick  t145 Ctrue t149
                refine ol_pure rfl (op_pick_t rfl rfl) ?_
                -- r19.10 t13 := assign  t150
                refine ol_pure rfl (op_assign rfl) ?_
                refine ol_nil ?_
                refine pq_then ?_
                refine cw_seq ?_
                refine cw_seq ?_
                refine cw_region ?_
                -- r20.0 t14 := assign  C0
                refine ol_pure rfl (op_assign rfl) ?_
                refine ol_nil ?_
                refine pq_then ?_
                refine cw_block ?_
                refine cw_loop (fun e w n => ∃ (z : Nat) (bb : Bool), e = [(1, .slice oM m.length cM), (3, .pointer (some ⟨b3, 0, none⟩)), (5, .pointer (some ⟨b5, 0, none⟩)), (9, .int .i64 (j : Nat)), (10, .slice o126 (ofI rs s.atoms[j]).length c126), (11, .int .i64 (q : Nat)), (12, .pointer (some ⟨b12, 0, none⟩)), (13, .bool bb), (14, .int .i64 (z : Nat))] ∧ z ≤ rs[x].pos.length ∧ n = rs[x].pos.length - z ∧ bb = ((hasB m rs[x].pos 0 || hasB m rs[x].neg 2) || (rs[x].pos.take z).any (fun p => decide (p ∈ s.atoms))) ∧ SS G w0 Gf [.blk b12 30 [.int .i64 rs[x].head, .slice op rs[x].pos.length cp, .slice oq rs[x].neg.length cq], .blk b5 37 [.int .i64 s.rule, .slice oS s.atoms.length cS], .blk b3 26 [.slice oA atoms.length cA, .slice oR rs.length cR]] w) _ _ (by exact ⟨0, true, rfl, Nat.zero_le _, rfl, by rw [h145]; rfl, hS⟩) ((Sub.cons rfl (Sub.cons rfl (Sub.cons rfl (Sub.cons rfl (Sub.cons rfl (Sub.cons rfl (Sub.cons rfl (Sub.cons rfl (Sub.cons rfl Sub.nil)))))))))) ?_
                clear hS
                rintro e w n ⟨z, bb, rfl, hz, rfl, hbb, hS⟩
                refine cw_seq ?_
                refine cw_seq ?_
                refine cw_region ?_
                -- r21.0 t151 := move  t14
                refine ol_pure rfl (op_move rfl) ?_
                -- r21.1 t152 := fieldAddr [30, 1] t12
                refine ol_pure rfl (op_fieldAddr fld_30_1 rfl) ?_
                -- r21.2 t153 := load [28] t152
                refine ol_load rfl (op_load1 one_28 rfl (fun w hw => (hw.bcell (i := 0) rfl).trans rfl)) hS ?_
                -- r21.3 t154 := call len t153
                refine ol_pure rfl (op_len sl_28 rfl rfl) ?_
                -- r21.4 t155 := lss t151 t154
                refine ol_pure rfl (op_lss rfl rfl) ?_
                refine ol_nil ?_
                refine pq_then ?_
                refine cw_cond rfl (fun h155 => ?_) (fun h155 => ?_)
                · skip
                  try simp only [decide_eq_true_eq, decide_eq_false_iff_not, Bool.not_eq_true', Bool.not_eq_false', Bool.not_eq_eq_eq_not, Bool.not_true, Bool.not_false] at h155
                  have hzl : z < rs[x].pos.length := by omega
                  obtain ⟨hoz, hcz, hbz⟩ := hp.int hzl
                  have hzs := Pl.any_take_succ (fun p => decide (p ∈ s.atoms)) rs[x].pos z hzl
                  refine cw_skip ?_
                  refine pq_then ?_
                  refine cw_seq ?_
                  refine cw_block ?_
                  refine al_start' hS (hS.take 2) (by kernel_rfl) rfl (fun w hS hT => ?_)
                  -- r23.0 t158 := move  t13
                  refine al_take (i := 0) rfl (by kernel_rfl) (by kernel_rfl) (by kernel_rfl) rfl (fun _ _ _ h => h) (op_move rfl) rfl ?_
                  -- r23.1 t159 := move  t158
                  refine al_take (i := 1) rfl (by kernel_rfl) (by kernel_rfl) (by kernel_rfl) rfl (fun _ _ _ h => h) (op_move rfl) rfl ?_
                  refine al_split (fun h159 => ?_) (fun h159 => ?_)
                  · skip
                    try simp only [decide_eq_true_eq, decide_eq_false_iff_not, Bool.not_eq_true', Bool.not_eq_false', Bool.not_eq_eq_eq_not, Bool.not_true, Bool.not_false] at h159
                    refine al_gskip (i := 2) rfl (by kernel_rfl) (by kernel_rfl) (by kernel_rfl) rfl rfl rfl rfl (fun _ _ _ h => h) (fun _ => hT) ?_
                    refine al_gskip (i := 3) rfl (by kernel_rfl) (by kernel_rfl) (by kernel_rfl) rfl rfl rfl rfl (fun _ _ _ h => h) (fun _ => hT) ?_
                    refine al_gskip (i := 4) rfl (by kernel_rfl) (by kernel_rfl) (by kernel_rfl) rfl rfl rfl rfl (fun _ _ _ h => h) (fun _ => hT) ?_
                    refine al_gskip (i := 5) rfl (by kernel_rfl) (by kernel_rfl) (by kernel_rfl) rfl rfl rfl rfl (fun _ _ _ h => h) (fun _ => hT) ?_
                    refine al_gskip (i := 6) rfl (by kernel_rfl) (by kernel_rfl) (by kernel_rfl) rfl rfl rfl rfl (fun _ _ _ h => h) (fun _ => hT) ?_
                    refine al_gskip (i := 7) rfl (by kernel_rfl) (by kernel_rfl) (by kernel_rfl) rfl rfl rfl rfl (fun _ _ _ h => h) (fun _ => hT) ?_
                    refine al_gskip (i := 8) rfl (by kernel_rfl) (by kernel_rfl) (by kernel_rfl) rfl rfl rfl rfl (fun _ _ _ h => h) (fun _ => hT) ?_
                    refine al_gskip (i := 9) rfl (by kernel_rfl) (by kernel_rfl) (by kernel_rfl) rfl rfl rfl rfl (fun _ _ _ h => h) (fun _ => hT) ?_
                    -- r23.10 t168 := pick  t159 Ctrue t167
                    refine al_take (i := 10) rfl (by kernel_rfl) (by kernel_rfl) (by kernel_rfl) rfl (fun _ _ _ h => h) (op_pick_t rfl rfl) rfl ?_
                    -- r23.11 t13 := assign  t168
                    refine al_take (i := 11) rfl (by kernel_rfl) (by kernel_rfl) (by kernel_rfl) rfl (fun _ _ _ h => h) (op_assign rfl) rfl ?_
                    refine al_done (by kernel_rfl) ?_
                    refine pq_in_normal ?_
                    refine pq_then ?_
                    refine cw_region ?_
                    -- r22.0 t156 := move  t14
                    refine ol_pure rfl (op_move rfl) ?_
                    -- r22.1 t157 := add t156 C1
                    refine ol_pure rfl (op_add rfl rfl (by omega) (by omega)) ?_
                    -- r22.2 t14 := assign  t157
                    refine ol_pure rfl (op_assign rfl) ?_
                    refine ol_nil ?_
                    -- end of round 4 h21f h26f h31f h81f h117t h130t h145t h155t h159t
                    refine pq_loop _ _ (by exact ⟨z + 1, true, rfl, by omega, rfl, by rw [hzs, ← Bool.or_assoc, ← hbb, h159]; rfl, hS⟩) ((Sub.cons rfl (Sub.cons rfl (Sub.cons rfl (Sub.cons rfl (Sub.cons rfl (Sub.cons rfl (Sub.cons rfl (Sub.cons rfl (Sub.cons rfl Sub.nil)))))))))) (by omega)
                  · skip
                    try simp only [decide_eq_true_eq, decide_eq_false_iff_not, Bool.not_eq_true', Bool.not_eq_false', Bool.not_eq_eq_eq_not, Bool.not_true, Bool.not_false] at h159
                    -- r23.2 t160 := fieldAddr [37, 1] t5 ?1=False
                    refine al_gtake (i := 2) rfl (by kernel_rfl) (by kernel_rfl) (by kernel_rfl) rfl rfl rfl (fun _ _ _ h => h) (op_fieldAddr fld_37_1 rfl) rfl ?_
                    -- r23.3 t161 := load [28] t160 ?1=False
                    refine al_gload (i := 3) rfl (by kernel_rfl) (by kernel_rfl) (by kernel_rfl) rfl rfl rfl (fun _ _ _ h => h) (by exact op_load1 one_28 rfl (fun w hw => (hw.bcell (i := 1) rfl).trans rfl)) rfl hT ?_
                    -- r23.4 t162 := fieldAddr [30, 1] t12 ?1=False
                    refine al_gtake (i := 4) rfl (by kernel_rfl) (by kernel_rfl) (by kernel_rfl) rfl rfl rfl (fun _ _ _ h => h) (op_fieldAddr fld_30_1 rfl) rfl ?_
                    -- r23.5 t163 := load [28] t162 ?1=False
                    refine al_gload (i := 5) rfl (by kernel_rfl) (by kernel_rfl) (by kernel_rfl) rfl rfl rfl (fun _ _ _ h => h) (by exact op_load1 one_28 rfl (fun w hw => (hw.bcell (i := 0) rfl).trans rfl)) rfl hT ?_
                    -- r23.6 t164 := move  t14 ?1=False
                    refine al_gtake (i := 6) rfl (by kernel_rfl) (by kernel_rfl) (by kernel_rfl) rfl rfl rfl (fun _ _ _ h => h) (op_move rfl) rfl ?_
                    -- r23.7 t165 := indexAddr [28] t163 t164 ?1=False
                    refine al_gtake (i := 7) rfl (by kernel_rfl) (by kernel_rfl) (by kernel_rfl) rfl rfl rfl (fun _ _ _ h => h) (op_indexN sl_28 rfl rfl (by omega) hoz) rfl ?_
                    -- r23.8 t166 := load [3] t165 ?1=False
                    refine al_gload (i := 8) rfl (by kernel_rfl) (by kernel_rfl) (by kernel_rfl) rfl rfl rfl (fun _ _ _ h => h) (by exact op_load1 one_3 rfl (fun w hw => hw.gcell0 hcz)) rfl hT ?_
                    refine al_gstep (i := 9) rfl (by kernel_rfl) rfl rfl rfl (op_call_sc hS cf_28 rfl (R21_In_c G _ (hS.hold.mono hlf) _ s.atoms rs[x].pos[z] h4)) ?_
                    clear hS
                    rintro _ w ⟨rfl, hS⟩
                    have hT := hT.back hS (by first | exact Le.refl _ | assumption) (fun x hx => by try simp only [List.take_succ_cons, List.take_zero, List.mem_cons, List.not_mem_nil, or_false] at hx; (rcases hx with rfl | rfl) <;> simp)
                    refine ⟨fun _ _ => hT, ?_⟩
                    -- r23.10 t168 := pick  t159 Ctrue t167
                    refine al_take (i := 10) rfl (by kernel_rfl) (by kernel_rfl) (by kernel_rfl) rfl (fun _ _ _ h => h) (op_pick_f rfl rfl) rfl ?_
                    -- r23.11 t13 := assign  t168
                    refine al_take (i := 11) rfl (by kernel_rfl) (by kernel_rfl) (by kernel_rfl) rfl (fun _ _ _ h => h) (op_assign rfl) rfl ?_
                    refine al_done (by kernel_rfl) ?_
                    refine pq_in_normal ?_
                    refine pq_then ?_
                    refine cw_region ?_
                    -- r22.0 t156 := move  t14
                    refine ol_pure rfl (op_move rfl) ?_
                    -- r22.1 t157 := add t156 C1
                    refine ol_pure rfl (op_add rfl rfl (by omega) (by omega)) ?_
                    -- r22.2 t14 := assign  t157
                    refine ol_pure rfl (op_assign rfl) ?_
                    refine ol_nil ?_
                    -- end of round 4 h21f h26f h31f h81f h117t h130t h145t h155t h159f
                    refine pq_loop _ _ (by exact ⟨z + 1, decide (rs[x].pos[z] ∈ s.atoms), rfl, by omega, rfl, by rw [hzs, ← Bool.or_assoc, ← hbb, h159]; rfl, hS⟩) ((Sub.cons rfl (Sub.cons rfl (Sub.cons rfl (Sub.cons rfl (Sub.cons rfl (Sub.cons rfl (Sub.cons rfl (Sub.cons rfl (Sub.cons rfl Sub.nil)))))))))) (by omega)
                · skip
                  try simp only [decide_eq_true_eq, decide_eq_false_iff_not, Bool.not_eq_true', Bool.not_eq_false', Bool.not_eq_eq_eq_not, Bool.not_true, Bool.not_false] at h155
                  rw [List.take_of_length_le (show rs[x].pos.length ≤ z by omega), ← htd] at hbb
                  refine cw_exit ?_
                  refine pq_exit ?_
                  refine pq_exit ?_
                  refine pq_in_exit ?_
                  refine pq_then ?_
                  refine cw_seq ?_
                  refine cw_region ?_
                  -- r24.0 t169 := move  t13
                  refine ol_pure rfl (op_move rfl) ?_
                  -- r24.1 t170 := not t169
                  refine ol_pure rfl (op_not rfl) ?_
                  refine ol_nil ?_
                  refine pq_then ?_
                  refine cw_cond rfl (fun h170 => ?_) (fun h170 => ?_)
                  · skip
                    try simp only [decide_eq_true_eq, decide_eq_false_iff_not, Bool.not_eq_true', Bool.not_eq_false', Bool.not_eq_eq_eq_not, Bool.not_true, Bool.not_false] at h170
                    refine cw_seq ?_
                    refine cw_region ?_
                    -- r25.0 t6 := assign  Cfalse
                    refine ol_pure rfl (op_assign rfl) ?_
                    refine ol_nil ?_
                    refine pq_then ?_
                    refine cw_ret ?_
                    refine pq_in_ret ?_
                    refine pq_ret ?_
                    refine pq_ret ?_
                    refine pq_in_ret ?_
                    refine pq_in_ret ?_
                    refine pq_ret ?_
                    refine pq_ret ?_
                    refine pq_in_ret ?_
                    refine pq_ret ?_
                    refine ret1 rfl rfl ?_
                    -- ret4 h21f h26f h31f h81f h117t h130t h145t h155f h170t
                    exact hS.sc_b (fit_false (List.getElem_mem hjl) (List.getElem_mem hql) (by rw [← hxe2, ← hbb]; exact h170) (by omega)).symm
                  · skip
                    try simp only [decide_eq_true_eq, decide_eq_false_iff_not, Bool.not_eq_true', Bool.not_eq_false', Bool.not_eq_eq_eq_not, Bool.not_true, Bool.not_false] at h170
                    refine cw_skip ?_
                    refine pq_in_normal ?_
                    refine pq_then ?_
                    refine cw_region ?_
                    -- r17.0 t131 := move  t11
                    refine ol_pure rfl (op_move rfl) ?_
                    -- r17.1 t132 := add t131 C1
                    refine ol_pure rfl (op_add rfl rfl (by omega) (by omega)) ?_
                    -- r17.2 t11 := assign  t132
                    refine ol_pure rfl (op_assign rfl) ?_
                    refine ol_nil ?_
                    -- end of round 3 h21f h26f h31f h81f h117t h130t h145t h155f h170f
                    refine pq_loop _ _ (by exact (by
                        replace hS := SS.drop [] hS
                        refine ⟨q + 1, rfl, by omega, rfl, fun y hy hyl => ?_, hS⟩
                        rcases Nat.lt_succ_iff_lt_or_eq.1 hy with hh | hh
                        · exact hfq y hh hyl
                        · subst hh
                          rw [← hbb]
                          exact h170)) ((Sub.cons rfl (Sub.cons rfl (Sub.cons rfl (Sub.cons rfl (Sub.cons rfl (Sub.cons rfl Sub.nil))))))) (by omega)
              · skip
                try simp only [decide_eq_true_eq, decide_eq_false_iff_not, Bool.not_eq_true', Bool.not_eq_false', Bool.not_eq_eq_eq_not, Bool.not_true, Bool.not_false] at h145
                -- r19.5 t146 := move  t1 ?4=False
                refine ol_guard_pure rfl rfl rfl (op_move rfl) ?_
                -- r19.6 t147 := fieldAddr [30, 2] t12 ?4=False
                refine ol_guard_pure rfl rfl rfl (op_fieldAddr fld_30_2 rfl) ?_
                -- r19.7 t148 := load [28] t147 ?4=False
                refine ol_guard_load rfl rfl rfl (op_load1 one_28 rfl (fun w hw => (hw.bcell (i := 0) rfl).trans rfl)) hS ?_
                -- r19.8 t149 := call f57 t146 t148 C2 ?4=False
                refine ol_guard_step rfl rfl rfl (op_call_sc hS cf_57 rfl (R21_Any_c G _ (hS.hold.mono hlf) _ m h3 _ rs[x].neg 2 hq hrm.2.2)) ?_
                clear hS
                rintro _ w ⟨rfl, hS⟩
                -- r19.9 t150 := pick  t145 Ctrue t149
                refine ol_pure rfl (op_pick_f rfl rfl) ?_
                -- r19.10 t13 := assign  t150
                refine ol_pure rfl (op_assign rfl) ?_
                refine ol_nil ?_
                refine pq_then ?_
                refine cw_seq ?_
                refine cw_seq ?_
                refine cw_region ?_
                -- r20.0 t14 := assign  C0
                refine ol_pure rfl (op_assign rfl) ?_
                refine ol_nil ?_
                refine pq_then ?_
                refine cw_block ?_
                refine cw_loop (fun e w n => ∃ (z : Nat) (bb : Bool), e = [(1, .slice oM m.length cM), (3, .pointer (some ⟨b3, 0, none⟩)), (5, .pointer (some ⟨b5, 0, none⟩)), (9, .int .i64 (j : Nat)), (10, .slice o126 (ofI rs s.atoms[j]).length c126), (11, .int .i64 (q : Nat)), (12, .pointer (some ⟨b12, 0, none⟩)), (13, .bool bb), (14, .int .i64 (z : Nat))] ∧ z ≤ rs[x].pos.length ∧ n = rs[x].pos.length - z ∧ bb = ((hasB m rs[x].pos 0 || hasB m rs[x].neg 2) || (rs[x].pos.take z).any (fun p => decide (p ∈ s.atoms))) ∧ SS G w0 Gf [.blk b12 30 [.int .i64 rs[x].head, .slice op rs[x].pos.length cp, .slice oq rs[x].neg.length cq], .blk b5 37 [.int .i64 s.rule, .slice oS s.atoms.length cS], .blk b3 26 [.slice oA atoms.length cA, .slice oR rs.length cR]] w) _ _ (by exact ⟨0, hasB m rs[x].neg 2, rfl, Nat.zero_le _, rfl, by rw [h145]; simp, hS⟩) ((Sub.cons rfl (Sub.cons rfl (Sub.cons rfl (Sub.cons rfl (Sub.cons rfl (Sub.cons rfl (Sub.cons rfl (Sub.cons rfl (Sub.cons rfl Sub.nil)))))))))) ?_
                clear hS
                rintro e w n ⟨z, bb, rfl, hz, rfl, hbb, hS⟩
                refine cw_seq ?_
                refine cw_seq ?_
                refine cw_region ?_
                -- r21.0 t151 := move  t14
                refine ol_pure rfl (op_move rfl) ?_
                -- r21.1 t152 := fieldAddr [30, 1] t12
                refine ol_pure rfl (op_fieldAddr fld_30_1 rfl) ?_
                -- r21.2 t153 := load [28] t152
                refine ol_load rfl (op_load1 one_28 rfl (fun w hw => (hw.bcell (i := 0) rfl).trans rfl)) hS ?_
                -- r21.3 t154 := call len t153
                refine ol_pure rfl (op_len sl_28 rfl rfl) ?_
                -- r21.4 t155 := lss t151 t154
                refine ol_pure rfl (op_lss rfl rfl) ?_
                refine ol_nil ?_
                refine pq_then ?_
                refine cw_cond rfl (fun h155 => ?_) (fun h155 => ?_)
                · skip
                  try simp only [decide_eq_true_eq, decide_eq_false_iff_not, Bool.not_eq_true', Bool.not_eq_false', Bool.not_eq_eq_eq_not, Bool.not_true, Bool.not_false] at h155
                  have hzl : z < rs[x].pos.length := by omega
                  obtain ⟨hoz, hcz, hbz⟩ := hp.int hzl
                  have hzs := Pl.any_take_succ (fun p => decide (p ∈ s.atoms)) rs[x].pos z hzl
                  refine cw_skip ?_
                  refine pq_then ?_
                  refine cw_seq ?_
                  refine cw_block ?_
                  refine al_start' hS (hS.take 2) (by kernel_rfl) rfl (fun w hS hT => ?_)
                  -- r23.0 t158 := move  t13
                  refine al_take (i := 0) rfl (by kernel_rfl) (by kernel_rfl) (by kernel_rfl) rfl (fun _ _ _ h => h) (op_move rfl) rfl ?_
                  -- r23.1 t159 := move  t158
                  refine al_take (i := 1) rfl (by kernel_rfl) (by kernel_rfl) (by kernel_rfl) rfl (fun _ _ _ h => h) (op_move rfl) rfl ?_
                  refine al_split (fun h159 => ?_) (fun h159 => ?_)
                  · skip
                    try simp only [decide_eq_true_eq, decide_eq_false_iff_not, Bool.not_eq_true', Bool.not_eq_false', Bool.not_eq_eq_eq_not, Bool.not_true, Bool.not_false] at h159
                    refine al_gskip (i := 2) rfl (by kernel_rfl) (by kernel_rfl) (by kernel_rfl) rfl rfl rfl rfl (fun _ _ _ h => h) (fun _ => hT) ?_
                    refine al_gskip (i := 3) rfl (by kernel_rfl) (by kernel_rfl) (by kernel_rfl) rfl rfl rfl rfl (fun _ _ _ h => h) (fun _ => hT) ?_
                    refine al_gskip (i := 4) rfl (by kernel_rfl) (by kernel_rfl) (by kernel_rfl) rfl rfl rfl rfl (fun _ _ _ h => h) (fun _ => hT) ?_
                    refine al_gskip (i := 5) rfl (by kernel_rfl) (by kernel_rfl) (by kernel_rfl) rfl rfl rfl rfl (fun _ _ _ h => h) (fun _ => hT) ?_
                    refine al_gskip (i := 6) rfl (by kernel_rfl) (by kernel_rfl) (by kernel_rfl) rfl rfl rfl rfl (fun _ _ _ h => h) (fun _ => hT) ?_
                    refine al_gskip (i := 7) rfl (by kernel_rfl) (by kernel_rfl) (by kernel_rfl) rfl rfl rfl rfl (fun _ _ _ h => h) (fun _ => hT) ?_
                    refine al_gskip (i := 8) rfl (by kernel_rfl) (by kernel_rfl) (by kernel_rfl) rfl rfl rfl rfl (fun _ _ _ h => h) (fun _ => hT) ?_
                    refine al_gskip (i := 9) rfl (by kernel_rfl) (by kernel_rfl) (by kernel_rfl) rfl rfl rfl rfl (fun _ _ _ h => h) (fun _ => hT) ?_
                    -- r23.10 t168 := pick  t159 Ctrue t167
                    refine al_take (i := 10) rfl (by kernel_rfl) (by kernel_rfl) (by kernel_rfl) rfl (fun _ _ _ h => h) (op_pick_t rfl rfl) rfl ?_
                    -- r23.11 t13 := assign  t168
                    refine al_take (i := 11) rfl (by kernel_rfl) (by kernel_rfl) (by kernel_rfl) rfl (fun _ _ _ h => h) (op_assign rfl) rfl ?_
                    refine al_done (by kernel_rfl) ?_
                    refine pq_in_normal ?_
                    refine pq_then ?_
                    refine cw_region ?_
                    -- r22.0 t156 := move  t14
                    refine ol_pure rfl (op_move rfl) ?_
                    -- r22.1 t157 := add t156 C1
                    refine ol_pure rfl (op_add rfl rfl (by omega) (by omega)) ?_
                    -- r22.2 t14 := assign  t157
                    refine ol_pure rfl (op_assign rfl) ?_
                    refine ol_nil ?_
                    -- end of round 4 h21f h26f h31f h81f h117t h130t h145f h155t h159t
                    refine pq_loop _ _ (by exact ⟨z + 1, true, rfl, by omega, rfl, by rw [hzs, ← Bool.or_assoc, ← hbb, h159]; rfl, hS⟩) ((Sub.cons rfl (Sub.cons rfl (Sub.cons rfl (Sub.cons rfl (Sub.cons rfl (Sub.cons rfl (Sub.cons rfl (Sub.cons rfl (Sub.cons rfl Sub.nil)))))))))) (by omega)
                  · skip
                    try simp only [decide_eq_true_eq, decide_eq_false_iff_not, Bool.not_eq_true', Bool.not_eq_false', Bool.not_eq_eq_eq_not, Bool.not_true, Bool.not_false] at h159
                    -- r23.2 t160 := fieldAddr [37, 1] t5 ?1=False
                    refine al_gtake (i := 2) rfl (by kernel_rfl) (by kernel_rfl) (by kernel_rfl) rfl rfl rfl (fun _ _ _ h => h) (op_fieldAddr fld_37_1 rfl) rfl ?_
                    -- r23.3 t161 := load [28] t160 ?1=False
                    refine al_gload (i := 3) rfl (by kernel_rfl) (by kernel_rfl) (by kernel_rfl) rfl rfl rfl (fun _ _ _ h => h) (by exact op_load1 one_28 rfl (fun w hw => (hw.bcell (i := 1) rfl).trans rfl)) rfl hT ?_
                    -- r23.4 t162 := fieldAddr [30, 1] t12 ?1=False
                    refine al_gtake (i := 4) rfl (by kernel_rfl) (by kernel_rfl) (by kernel_rfl) rfl rfl rfl (fun _ _ _ h => h) (op_fieldAddr fld_30_1 rfl) rfl ?_
                    -- r23.5 t163 := load [28] t162 ?1=False
                    refine al_gload (i := 5) rfl (by kernel_rfl) (by kernel_rfl) (by kernel_rfl) rfl rfl rfl (fun _ _ _ h => h) (by exact op_load1 one_28 rfl (fun w hw => (hw.bcell (i := 0) rfl).trans rfl)) rfl hT ?_
                    -- r23.6 t164 := move  t14 ?1=False
                    refine al_gtake (i := 6) rfl (by kernel_rfl) (by kernel_rfl) (by kernel_rfl) rfl rfl rfl (fun _ _ _ h => h) (op_move rfl) rfl ?_
                    -- r23.7 t165 := indexAddr [28] t163 t164 ?1=False
                    refine al_gtake (i := 7) rfl (by kernel_rfl) (by kernel_rfl) (by kernel_rfl) rfl rfl rfl (fun _ _ _ h => h) (op_indexN sl_28 rfl rfl (by omega) hoz) rfl ?_
                    -- r23.8 t166 := load [3] t165 ?1=False
                    refine al_gload (i := 8) rfl (by kernel_rfl) (by kernel_rfl) (by kernel_rfl) rfl rfl rfl (fun _ _ _ h => h) (by exact op_load1 one_3 rfl (fun w hw => hw.gcell0 hcz)) rfl hT ?_
                    refine al_gstep (i := 9) rfl (by kernel_rfl) rfl rfl rfl (op_call_sc hS cf_28 rfl (R21_In_c G _ (hS.hold.mono hlf) _ s.atoms rs[x].pos[z] h4)) ?_
                    clear hS
                    rintro _ w ⟨rfl, hS⟩
                    have hT := hT.back hS (by first | exact Le.refl _ | assumption) (fun x hx => by try simp only [List.take_succ_cons, List.take_zero, List.mem_cons, List.not_mem_nil, or_false] at hx; (rcases hx with rfl | rfl) <;> simp)
                    refine ⟨fun _ _ => hT, ?_⟩
                    -- r23.10 t168 := pick  t159 Ctrue t167
                    refine al_take (i := 10) rfl (by kernel_rfl) (by kernel_rfl) (by kernel_rfl) rfl (fun _ _ _ h => h) (op_pick_f rfl rfl) rfl ?_
                    -- r23.11 t13 := assign  t168
                    refine al_take (i := 11) rfl (by kernel_rfl) (by kernel_rfl) (by kernel_rfl) rfl (fun _ _ _ h => h) (op_assign rfl) rfl ?_
                    refine al_done (by kernel_rfl) ?_
                    refine pq_in_normal ?_
                    refine pq_then ?_
                    refine cw_region ?_
                    -- r22.0 t156 := move  t14
                    refine ol_pure rfl (op_move rfl) ?_
                    -- r22.1 t157 := add t156 C1
                    refine ol_pure rfl (op_add rfl rfl (by omega) (by omega)) ?_
                    -- r22.2 t14 := assign  t157
                    refine ol_pure rfl (op_assign rfl) ?_
                    refine ol_nil ?_
                    -- end of round 4 h21f h26f h31f h81f h117t h130t h145f h155t h159f
                    refine pq_loop _ _ (by exact ⟨z + 1, decide (rs[x].pos[z] ∈ s.atoms), rfl, by omega, rfl, by rw [hzs, ← Bool.or_assoc, ← hbb, h159]; rfl, hS⟩) ((Sub.cons rfl (Sub.cons rfl (Sub.cons rfl (Sub.cons rfl (Sub.cons rfl (Sub.cons rfl (Sub.cons rfl (Sub.cons rfl (Sub.cons rfl Sub.nil)))))))))) (by omega)
                · skip
                  try simp only [decide_eq_true_eq, decide_eq_false_iff_not, Bool.not_eq_true', Bool.not_eq_false', Bool.not_eq_eq_eq_not, Bool.not_true, Bool.not_false] at h155
                  rw [List.take_of_length_le (show rs[x].pos.length ≤ z by omega), ← htd] at hbb
                  refine cw_exit ?_
                  refine pq_exit ?_
                  refine pq_exit ?_
                  refine pq_in_exit ?_
                  refine pq_then ?_
                  refine cw_seq ?_
                  refine cw_region ?_
                  -- r24.0 t169 := move  t13
                  refine ol_pure rfl (op_move rfl) ?_
                  -- r24.1 t170 := not t169
                  refine ol_pure rfl (op_not rfl) ?_
                  refine ol_nil ?_
                  refine pq_then ?_
                  refine cw_cond rfl (fun h170 => ?_) (fun h170 => ?_)
                  · skip
                    try simp only [decide_eq_true_eq, decide_eq_false_iff_not, Bool.not_eq_true', Bool.not_eq_false', Bool.not_eq_eq_eq_not, Bool.not_true, Bool.not_false] at h170
                    refine cw_seq ?_
                    refine cw_region ?_
                    -- r25.0 t6 := assign  Cfalse
                    refine ol_pure rfl (op_assign rfl) ?_
                    refine ol_nil ?_
                    refine pq_then ?_
                    refine cw_ret ?_
                    refine pq_in_ret ?_
                    refine pq_ret ?_
                    refine pq_ret ?_
                    refine pq_in_ret ?_
                    refine pq_in_ret ?_
                    refine pq_ret ?_
                    refine pq_ret ?_
                    refine pq_in_ret ?_
                    refine pq_ret ?_
                    refine ret1 rfl rfl ?_
                    -- ret4 h21f h26f h31f h81f h117t h130t h145f h155f h170t
                    exact hS.sc_b (fit_false (List.getElem_mem hjl) (List.getElem_mem hql) (by rw [← hxe2, ← hbb]; exact h170) (by omega)).symm
                  · skip
                    try simp only [decide_eq_true_eq, decide_eq_false_iff_not, Bool.not_eq_true', Bool.not_eq_false', Bool.not_eq_eq_eq_not, Bool.not_true, Bool.not_false] at h170
                    refine cw_skip ?_
                    refine pq_in_normal ?_
                    refine pq_then ?_
                    refine cw_region ?_
                    -- r17.0 t131 := move  t11
                    refine ol_pure rfl (op_move rfl) ?_
                    -- r17.1 t132 := add t131 C1
                    refine ol_pure rfl (op_add rfl rfl (by omega) (by omega)) ?_
                    -- r17.2 t11 := assign  t132
                    refine ol_pure rfl (op_assign rfl) ?_
                    refine ol_nil ?_
                    -- end of round 3 h21f h26f h31f h81f h117t h130t h145f h155f h170f
                    refine pq_loop _ _ (by exact (by
                        replace hS := SS.drop [] hS
                        refine ⟨q + 1, rfl, by omega, rfl, fun y hy hyl => ?_, hS⟩
                        rcases Nat.lt_succ_iff_lt_or_eq.1 hy with hh | hh
                        · exact hfq y hh hyl
                        · subst hh
                          rw [← hbb]
                          exact h170)) ((Sub.cons rfl (Sub.cons rfl (Sub.cons rfl (Sub.cons rfl (Sub.cons rfl (Sub.cons rfl Sub.nil))))))) (by omega)
            · skip
              try simp only [decide_eq_true_eq, decide_eq_false_iff_not, Bool.not_eq_true', Bool.not_eq_false', Bool.not_eq_eq_eq_not, Bool.not_true, Bool.not_false] at h130
              refine cw_exit ?_
              refine pq_exit ?_
              refine pq_exit ?_
              refine pq_in_exit ?_
              refine pq_in_normal ?_
              refine pq_then ?_
              refine cw_region ?_
              -- r13.0 t118 := move  t9
              refine ol_pure rfl (op_move rfl) ?_
              -- r13.1 t119 := add t118 C1
              refine ol_pure rfl (op_add rfl rfl (by omega) (by omega)) ?_
              -- r13.2 t9 := assign  t119
              refine ol_pure rfl (op_assign rfl) ?_
              refine ol_nil ?_
              -- end of round 2 h21f h26f h31f h81f h117t h130f
              refine pq_loop _ _ (by exact ⟨j + 1, Gf, rfl, by omega, rfl, fun y hy hyl => (by
                    rcases Nat.lt_succ_iff_lt_or_eq.1 hy with hh | hh
                    · exact hfa y hh hyl
                    · subst hh
                      rw [show s.atoms.getD y 0 = s.atoms[y] from by simp [hyl]]
                      intro i hi
                      obtain ⟨t, ht, rfl⟩ := List.getElem_of_mem hi
                      have h9 := hfq t (by omega) ht
                      rwa [show (ofI rs s.atoms[y]).getD t 0 = (ofI rs s.atoms[y])[t] from by simp [ht]] at h9), hlf, hS⟩) ((Sub.cons rfl (Sub.cons rfl (Sub.cons rfl (Sub.cons rfl Sub.nil))))) (by omega)
          · skip
            try simp only [decide_eq_true_eq, decide_eq_false_iff_not, Bool.not_eq_true', Bool.not_eq_false', Bool.not_eq_eq_eq_not, Bool.not_true, Bool.not_false] at h117
            refine cw_exit ?_
            refine pq_exit ?_
            refine pq_exit ?_
            refine pq_in_exit ?_
            refine pq_then ?_
            refine cw_seq ?_
            refine cw_region ?_
            -- r26.0 t171 := fieldAddr [37, 0] t5
            refine ol_pure rfl (op_fieldAddr fld_37_0 rfl) ?_
            -- r26.1 t172 := load [3] t171
            refine ol_load rfl (op_load1 one_3 rfl (fun w hw => (hw.bcell (i := 0) rfl).trans rfl)) hS ?_
            -- r26.2 t173 := eql t172 C-1
            refine ol_pure rfl (op_eql rfl rfl) ?_
            -- r26.3 t6 := assign  t173
            refine ol_pure rfl (op_assign rfl) ?_
            refine ol_nil ?_
            refine pq_then ?_
            refine cw_ret ?_
            refine ret1 rfl rfl ?_
            -- ret5 h21f h26f h31f h81f h117f
            exact hS.sc_b (by
              symm
              refine fit_true hso (fun a ha => ?_) (by omega)
              obtain ⟨y, hy, rfl⟩ := List.getElem_of_mem ha
              have := hfa y (by omega) hy
              rwa [show s.atoms.getD y 0 = s.atoms[y] from by simp [hy]] at this)
end Go.Proofs.Ytmkgechdfimfnaa.K
