/-
  The law package of layer 17: closed, below, sides.
  No condition but the premises that each theorem names.
-/
import Derived.Test.YtegjmfcfjedfjaaLaw17
import Derived.Test.YtegjmfcfjedfjaaPlw
namespace Go.Proofs.Ytegjmfcfjedfjaa.K
open Go Go.RowKit
set_option linter.unusedVariables false
set_option linter.unusedSimpArgs false

open Pl
theorem op_eqlT {P : Program} {N : Nat} {e : Env} {d : Option Tmp} {ty : TypeId} {pos : String} {after : Array Edge} {g : Option (Nat × Bool)} {t t' : TypeId} {x y : Operand} {m n : Int} {k : IntKind} (hx : ev e x = some (.int k m)) (hy : ev e y = some (.int k n)) (h : m = n) : OpP P N e ⟨d, .binOp .eql t x y t', ty, pos, after, g⟩ (.bool true) := by
  have := op_eql (P := P) (N := N) (t := t) (t' := t') (d := d) (ty := ty) (pos := pos) (after := after) (g := g) hx hy
  rwa [decide_eq_true h] at this
/-- A row of the call's own, handed on: what it reads by is by itself. -/
theorem SS.give_fr {G0 G : GH} {w0 w : World} {M : List Ent} {α : Type} {E : ER α} (zs : List α) (pre : List Ent) {oa : Option Addr} {n c : Nat} {T : TypeId} {sz : Nat} {xs : List Value} (hE : EMono E) (h : SS G0 w0 G (pre ++ .row oa n c T sz xs :: M) w) (hsz : 0 < sz) (hr : Rows sz E noG xs zs) (hn : n = zs.length) :
    ∃ F G', RSl sz E F (.slice oa n c) zs ∧ (∀ b, b < w0.heap.size → F b = none) ∧ Le F G' ∧ Le G G' ∧ SS G0 w0 G' (pre ++ M) w := by
  obtain ⟨h1, h2, h3⟩ := h.row_len pre
  have hx : Ent.row oa n c T sz xs ∈ pre ++ Ent.row oa n c T sz xs :: M := by simp
  refine ⟨oneG w (Ent.row oa n c T sz xs).fp, _, .of_cells hn h2 h3 (hr.mono hE (fun b o hb => by cases hb)) hsz (RowIn.full (h.own _ hx) fun b hb => ?_), fun b hb => ?_, joinG_right h.hold (oneG_holds _ _), joinG_left _ _, h.pub pre⟩
  · have hfp : (Ent.row oa n c T sz xs).fp = some b := hb
    simp [oneG, hfp]
  · unfold oneG
    rw [if_neg]
    intro hfp
    have := (h.new _ hx b hfp).2
    omega
/-- Two results, each by itself. -/
theorem join_fr {G F F' : GH} {w0 w : World} (hG : Holds G w) (hl : Le F G) (hl' : Le F' G) (hF : ∀ b, b < w0.heap.size → F b = none) (hF' : ∀ b, b < w0.heap.size → F' b = none) : ∃ J, Le F J ∧ Le F' J ∧ Le J G ∧ ∀ b, b < w0.heap.size → J b = none :=
  ⟨joinG F F', joinG_left _ _, joinG_right (hG.mono hl) (hG.mono hl'), fun b o hb => by
    unfold joinG at hb
    cases hf : F b with
    | some o' => rw [hf] at hb; exact hl b o (by rw [hf]; exact hb)
    | none => rw [hf] at hb; exact hl' b o hb, fun b hb => by simp [joinG, hF b hb, hF' b hb]⟩
theorem op_neqF {P : Program} {N : Nat} {e : Env} {d : Option Tmp} {ty : TypeId} {pos : String} {after : Array Edge} {g : Option (Nat × Bool)} {t t' : TypeId} {x y : Operand} {m n : Int} {k : IntKind} (hx : ev e x = some (.int k m)) (hy : ev e y = some (.int k n)) (h : m = n) : OpP P N e ⟨d, .binOp .neq t x y t', ty, pos, after, g⟩ (.bool false) := by
  have := op_neq (P := P) (N := N) (t := t) (t' := t') (d := d) (ty := ty) (pos := pos) (after := after) (g := g) hx hy
  rwa [decide_eq_true h] at this

set_option maxRecDepth 100000 in

theorem L17_below_c (G : GH) (w0 : World) (hG : Holds G w0) (v u : Value) (a b : List Bool) (h1 : RSl 1 EBool G v a) (h2 : RSl 1 EBool G u b) :
    Calls Try.prog 23 #[v, u] w0 (Sc w0 (.bool (belowB a b))) := by
  obtain ⟨oa, c, rfl, hlc, hcm⟩ := h1.elim
  obtain ⟨ob, d, rfl, hld, hdm⟩ := h2.elim
  have hle := h1.le
  refine enter Try.func23 rfl (N := 29) rfl (Nat.le_of_ble_eq_true rfl) ?_
  have hS := SS.init hG
  refine cw_seq ?_
  refine cw_region ?_
  -- r0.0 t4 := assign  Cfalse
  refine ol_pure rfl (op_assign rfl) ?_
  refine ol_nil ?_
  refine pq_then ?_
  refine cw_seq ?_
  refine cw_seq ?_
  refine cw_region ?_
  -- r1.0 t5 := assign  C0
  refine ol_pure rfl (op_assign rfl) ?_
  refine ol_nil ?_
  refine pq_then ?_
  refine cw_block ?_
  refine cw_loop (fun e w n => ∃ k : Nat, e = [(0, .slice oa a.length c), (1, .slice ob b.length d), (5, .int .i64 (k : Nat))] ∧ k ≤ a.length ∧ n = a.length - k ∧ (∀ i : Nat, i < k → (!(atB a (i : Int) && !atB b (i : Int))) = true) ∧ SS G w0 G [] w) _ _ (by exact ⟨0, rfl, Nat.zero_le _, rfl, (fun i hi => absurd hi (Nat.not_lt_zero _)), hS⟩) ((Sub.cons rfl (Sub.cons rfl (Sub.cons rfl Sub.nil)))) ?_
  clear hS
  rintro e w n ⟨k, rfl, hk, rfl, hp, hS⟩
  refine cw_seq ?_
  refine cw_seq ?_
  refine cw_region ?_
  -- r2.0 t6 := move  t5
  refine ol_pure rfl (op_move rfl) ?_
  -- r2.1 t7 := move  t0
  refine ol_pure rfl (op_move rfl) ?_
  -- r2.2 t8 := call len t7
  refine ol_pure rfl (op_len sl_26 rfl rfl) ?_
  -- r2.3 t9 := lss t6 t8
  refine ol_pure rfl (op_lss rfl rfl) ?_
  refine ol_nil ?_
  refine pq_then ?_
  refine cw_cond rfl (fun h9 => ?_) (fun h9 => ?_)
  · skip
    try simp only [decide_eq_true_eq, decide_eq_false_iff_not, Bool.not_eq_true', Bool.not_eq_false', Bool.not_eq_eq_eq_not, Bool.not_true, Bool.not_false] at h9
    have hlt : k < a.length := by omega
    obtain ⟨hoa, hc⟩ := h1.bool hlt
    have ea : atB a (k : Int) = a[k] := by rw [atB_nat]; simp [hlt]
    refine cw_skip ?_
    refine pq_then ?_
    refine cw_seq ?_
    refine cw_block ?_
    refine cw_seq ?_
    refine cw_region ?_
    -- r4.0 t12 := move  t0
    refine ol_pure rfl (op_move rfl) ?_
    -- r4.1 t13 := move  t5
    refine ol_pure rfl (op_move rfl) ?_
    -- r4.2 t14 := indexAddr [26] t12 t13
    refine ol_pure rfl (op_indexN sl_26 rfl rfl (by omega) (by assumption)) ?_
    -- r4.3 t15 := load [4] t14
    refine ol_load rfl (op_load1 one_4 rfl (fun w hw => by first | exact hw.gcell (by assumption) | exact hw.gcell0 (by assumption))) hS ?_
    -- r4.4 t16 := move  t15
    refine ol_pure rfl (op_move rfl) ?_
    refine ol_split (fun h16 => ?_) (fun h16 => ?_)
    · skip
      try simp only [decide_eq_true_eq, decide_eq_false_iff_not, Bool.not_eq_true', Bool.not_eq_false', Bool.not_eq_eq_eq_not, Bool.not_true, Bool.not_false] at h16
      -- r4.5 t17 := move  t5 ?4=True
      refine ol_guard_pure rfl rfl rfl (op_move rfl) ?_
      -- r4.6 t18 := move  t1 ?4=True
      refine ol_guard_pure rfl rfl rfl (op_move rfl) ?_
      -- r4.7 t19 := call len t18 ?4=True
      refine ol_guard_pure rfl rfl rfl (op_len sl_26 rfl rfl) ?_
      -- r4.8 t20 := geq t17 t19 ?4=True
      refine ol_guard_pure rfl rfl rfl (op_geq rfl rfl) ?_
      -- r4.9 t21 := move  t20 ?4=True
      refine ol_guard_pure rfl rfl rfl (op_move rfl) ?_
      refine ol_split (fun h21 => ?_) (fun h21 => ?_)
      · skip
        try simp only [decide_eq_true_eq, decide_eq_false_iff_not, Bool.not_eq_true', Bool.not_eq_false', Bool.not_eq_eq_eq_not, Bool.not_true, Bool.not_false] at h21
        have hbad : (!(atB a (k : Int) && !atB b (k : Int))) = false := by
          have hbl : b.length ≤ k := by omega
          rw [ea, h16, atB_nat]
          simp [hbl]
        refine ol_guard_no rfl rfl rfl rfl ?_
        refine ol_guard_no rfl rfl rfl rfl ?_
        refine ol_guard_no rfl rfl rfl rfl ?_
        refine ol_guard_no rfl rfl rfl rfl ?_
        refine ol_guard_no rfl rfl rfl rfl ?_
        -- r4.15 t27 := pick  t21 Ctrue t26 ?4=True
        refine ol_guard_pure rfl rfl rfl (op_pick_t rfl rfl) ?_
        -- r4.16 t28 := pick  t16 t27 Cfalse
        refine ol_pure rfl (op_pick_t rfl rfl) ?_
        refine ol_nil ?_
        refine pq_then ?_
        refine cw_cond_t rfl ?_
        refine cw_seq ?_
        refine cw_region ?_
        -- r5.0 t4 := assign  Cfalse
        refine ol_pure rfl (op_assign rfl) ?_
        refine ol_nil ?_
        refine pq_then ?_
        refine cw_ret ?_
        refine pq_in_ret ?_
        refine pq_ret ?_
        refine pq_ret ?_
        refine pq_in_ret ?_
        refine pq_ret ?_
        refine ret1 rfl rfl ?_
        -- ret1 h9t h16t h21t
        exact hS.sc_b (by symm; unfold belowB; rw [List.all_eq_false]; exact ⟨k, List.mem_range.2 hlt, by rw [hbad]; decide⟩)
      · skip
        try simp only [decide_eq_true_eq, decide_eq_false_iff_not, Bool.not_eq_true', Bool.not_eq_false', Bool.not_eq_eq_eq_not, Bool.not_true, Bool.not_false] at h21
        have hb' : k < b.length := by omega
        obtain ⟨hob, hcb⟩ := h2.bool hb'
        have eb : atB b (k : Int) = b[k] := by rw [atB_nat]; simp [hb']
        -- r4.10 t22 := move  t1 ?9=False
        refine ol_guard_pure rfl rfl rfl (op_move rfl) ?_
        -- r4.11 t23 := move  t5 ?9=False
        refine ol_guard_pure rfl rfl rfl (op_move rfl) ?_
        -- r4.12 t24 := indexAddr [26] t22 t23 ?9=False
        refine ol_guard_pure rfl rfl rfl (op_indexN sl_26 rfl rfl (by omega) (by assumption)) ?_
        -- r4.13 t25 := load [4] t24 ?9=False
        refine ol_guard_load rfl rfl rfl (op_load1 one_4 rfl (fun w hw => by first | exact hw.gcell (by assumption) | exact hw.gcell0 (by assumption))) hS ?_
        -- r4.14 t26 := not t25 ?9=False
        refine ol_guard_pure rfl rfl rfl (op_not rfl) ?_
        -- r4.15 t27 := pick  t21 Ctrue t26 ?4=True
        refine ol_guard_pure rfl rfl rfl (op_pick_f rfl rfl) ?_
        -- r4.16 t28 := pick  t16 t27 Cfalse
        refine ol_pure rfl (op_pick_t rfl rfl) ?_
        refine ol_nil ?_
        refine pq_then ?_
        refine cw_cond rfl (fun h28 => ?_) (fun h28 => ?_)
        · skip
          try simp only [decide_eq_true_eq, decide_eq_false_iff_not, Bool.not_eq_true', Bool.not_eq_false', Bool.not_eq_eq_eq_not, Bool.not_true, Bool.not_false] at h28
          have hbad : (!(atB a (k : Int) && !atB b (k : Int))) = false := by rw [ea, eb, h16, h28]; rfl
          refine cw_seq ?_
          refine cw_region ?_
          -- r5.0 t4 := assign  Cfalse
          refine ol_pure rfl (op_assign rfl) ?_
          refine ol_nil ?_
          refine pq_then ?_
          refine cw_ret ?_
          refine pq_in_ret ?_
          refine pq_ret ?_
          refine pq_ret ?_
          refine pq_in_ret ?_
          refine pq_ret ?_
          refine ret1 rfl rfl ?_
          -- ret1 h9t h16t h21f h28t
          exact hS.sc_b (by symm; unfold belowB; rw [List.all_eq_false]; exact ⟨k, List.mem_range.2 hlt, by rw [hbad]; decide⟩)
        · skip
          try simp only [decide_eq_true_eq, decide_eq_false_iff_not, Bool.not_eq_true', Bool.not_eq_false', Bool.not_eq_eq_eq_not, Bool.not_true, Bool.not_false] at h28
          have hok : (!(atB a (k : Int) && !atB b (k : Int))) = true := by rw [ea, eb, h16, h28]; rfl
          refine cw_skip ?_
          refine pq_in_normal ?_
          refine pq_then ?_
          refine cw_region ?_
          -- r3.0 t10 := move  t5
          refine ol_pure rfl (op_move rfl) ?_
          -- r3.1 t11 := add t10 C1
          refine ol_pure rfl (op_add rfl rfl (by omega) (by omega)) ?_
          -- r3.2 t5 := assign  t11
          refine ol_pure rfl (op_assign rfl) ?_
          refine ol_nil ?_
          -- end of round 1 h9t h16t h21f h28f
          refine pq_loop _ _ (by exact ⟨k + 1, rfl, by omega, rfl, (fun i hi => by rcases Nat.lt_succ_iff_lt_or_eq.1 hi with hi | rfl; exact hp i hi; exact hok), hS⟩) ((Sub.cons rfl (Sub.cons rfl (Sub.cons rfl Sub.nil)))) (by omega)
    · skip
      try simp only [decide_eq_true_eq, decide_eq_false_iff_not, Bool.not_eq_true', Bool.not_eq_false', Bool.not_eq_eq_eq_not, Bool.not_true, Bool.not_false] at h16
      have hok : (!(atB a (k : Int) && !atB b (k : Int))) = true := by rw [ea, h16]; rfl
      refine ol_guard_no rfl rfl rfl rfl ?_
      refine ol_guard_no rfl rfl rfl rfl ?_
      refine ol_guard_no rfl rfl rfl rfl ?_
      refine ol_guard_no rfl rfl rfl rfl ?_
      refine ol_guard_no rfl rfl rfl rfl ?_
      refine ol_guard_undef rfl rfl rfl ?_
      refine ol_guard_undef rfl rfl rfl ?_
      refine ol_guard_undef rfl rfl rfl ?_
      refine ol_guard_undef rfl rfl rfl ?_
      refine ol_guard_undef rfl rfl rfl ?_
      refine ol_guard_no rfl rfl rfl rfl ?_
      -- r4.16 t28 := pick  t16 t27 Cfalse
      refine ol_pure rfl (op_pick_f rfl rfl) ?_
      refine ol_nil ?_
      refine pq_then ?_
      refine cw_cond_f rfl ?_
      refine cw_skip ?_
      refine pq_in_normal ?_
      refine pq_then ?_
      refine cw_region ?_
      -- r3.0 t10 := move  t5
      refine ol_pure rfl (op_move rfl) ?_
      -- r3.1 t11 := add t10 C1
      refine ol_pure rfl (op_add rfl rfl (by omega) (by omega)) ?_
      -- r3.2 t5 := assign  t11
      refine ol_pure rfl (op_assign rfl) ?_
      refine ol_nil ?_
      -- end of round 1 h9t h16f
      refine pq_loop _ _ (by exact ⟨k + 1, rfl, by omega, rfl, (fun i hi => by rcases Nat.lt_succ_iff_lt_or_eq.1 hi with hi | rfl; exact hp i hi; exact hok), hS⟩) ((Sub.cons rfl (Sub.cons rfl (Sub.cons rfl Sub.nil)))) (by omega)
  · skip
    try simp only [decide_eq_true_eq, decide_eq_false_iff_not, Bool.not_eq_true', Bool.not_eq_false', Bool.not_eq_eq_eq_not, Bool.not_true, Bool.not_false] at h9
    refine cw_exit ?_
    refine pq_exit ?_
    refine pq_exit ?_
    refine pq_in_exit ?_
    refine pq_then ?_
    refine cw_seq ?_
    refine cw_region ?_
    -- r6.0 t4 := assign  Ctrue
    refine ol_pure rfl (op_assign rfl) ?_
    refine ol_nil ?_
    refine pq_then ?_
    refine cw_ret ?_
    refine ret1 rfl rfl ?_
    -- ret2 h9f
    exact hS.sc_b (by symm; unfold belowB; rw [List.all_eq_true]; exact fun i hi => hp i (by have := List.mem_range.1 hi; omega))
set_option maxRecDepth 100000 in
set_option maxHeartbeats 400000 in

theorem L17_closed_c (G : GH) (w0 : World) (hG : Holds G w0) {α : Type} {E : ER α} (va vr : Value) (atoms : List α) (rs : List Rule) (h1 : RSl 1 E G va atoms) (h2 : RSl 3 ERule G vr rs) (hP : PrOk atoms.length rs) (vso vx : Value) (so x : List Bool) (h3 : RSl 1 EBool G vso so) (h4 : RSl 1 EBool G vx x) :
    Calls Try.prog 22 #[.agg #[va, vr], vso, vx] w0 (Sc w0 (.bool (closedB rs so x))) := by
  obtain ⟨oA, cA, rfl, hlA, hmA⟩ := h1.elim
  obtain ⟨oR, cR, rfl, hlR, hmR⟩ := h2.elim
  have hPn := hP.n_le
  have hPm := hP.m_le
  obtain ⟨oS, cS, rfl, hlS, hmS⟩ := h3.elim
  obtain ⟨oX, cX, rfl, hlX, hmX⟩ := h4.elim
  refine enter Try.func22 rfl (N := 40) rfl (Nat.le_of_ble_eq_true rfl) ?_
  have hS := SS.init hG
  refine cw_seq ?_
  refine cw_region ?_
  -- r0.0 t3 := box [25] t0
  refine ol_step rfl (op_box hS rfl rfl) ?_
  clear hS
  rintro _ w ⟨b3, rfl, hS⟩
  -- r0.1 t6 := assign  Cfalse
  refine ol_pure rfl (op_assign rfl) ?_
  refine ol_nil ?_
  refine pq_then ?_
  refine cw_seq ?_
  refine cw_seq ?_
  refine cw_region ?_
  -- r1.0 t7 := assign  C0
  refine ol_pure rfl (op_assign rfl) ?_
  refine ol_nil ?_
  refine pq_then ?_
  refine cw_block ?_
  refine cw_loop (fun e w n => ∃ k : Nat, e = [(1, .slice oS so.length cS), (2, .slice oX x.length cX), (3, .pointer (some ⟨b3, 0, none⟩)), (7, .int .i64 (k : Nat))] ∧ k ≤ rs.length ∧ n = rs.length - k ∧ (rs.take k).all (fun r : Rule => !(!anyB so r.neg && allB x r.pos && !allB x [r.head])) = true ∧ SS G w0 G [.blk b3 25 [.slice oA atoms.length cA, .slice oR rs.length cR]] w) _ _ (by exact ⟨0, rfl, Nat.zero_le _, rfl, rfl, hS⟩) ((Sub.cons rfl (Sub.cons rfl (Sub.cons rfl (Sub.cons rfl Sub.nil))))) ?_
  clear hS
  rintro e w n ⟨k, rfl, hk, rfl, hpa, hS⟩
  refine cw_seq ?_
  refine cw_seq ?_
  refine cw_region ?_
  -- r2.0 t9 := move  t7
  refine ol_pure rfl (op_move rfl) ?_
  -- r2.1 t10 := fieldAddr [25, 1] t3
  refine ol_pure rfl (op_fieldAddr fld_25_1 rfl) ?_
  -- r2.2 t11 := load [23] t10
  refine ol_load rfl (op_load1 one_23 rfl (fun w hw => (hw.bcell (i := 0) rfl).trans rfl)) hS ?_
  -- r2.3 t12 := call len t11
  refine ol_pure rfl (op_len sl_23 rfl rfl) ?_
  -- r2.4 t13 := lss t9 t12
  refine ol_pure rfl (op_lss rfl rfl) ?_
  refine ol_nil ?_
  refine pq_then ?_
  refine cw_cond rfl (fun h13 => ?_) (fun h13 => ?_)
  · skip
    try simp only [decide_eq_true_eq, decide_eq_false_iff_not, Bool.not_eq_true', Bool.not_eq_false', Bool.not_eq_eq_eq_not, Bool.not_true, Bool.not_false] at h13
    have hlt : k < rs.length := by omega
    have hrk := (hP.rule _ (List.getElem_mem hlt)).1
    obtain ⟨hoa, cs, hcl, ⟨p, q, rfl, hp, hq, hhd⟩, hcells⟩ := h2.el hlt
    obtain ⟨op, cp, hpe, hlp, hmp⟩ := hp.elim
    obtain ⟨oq, cq, hqe, hlq, hmq⟩ := hq.elim
    subst hpe
    subst hqe
    have hp0 : ∀ x ∈ rs[k].pos, 0 ≤ x := fun x hx => (hrk.2.1 x hx).1
    have hq0 : ∀ x ∈ rs[k].neg, 0 ≤ x := fun x hx => (hrk.2.2 x hx).1
    refine cw_skip ?_
    refine pq_then ?_
    refine cw_seq ?_
    refine cw_block ?_
    refine cw_seq ?_
    refine cw_region ?_
    -- r4.0 t16 := fieldAddr [25, 1] t3
    refine ol_pure rfl (op_fieldAddr fld_25_1 rfl) ?_
    -- r4.1 t17 := load [23] t16
    refine ol_load rfl (op_load1 one_23 rfl (fun w hw => (hw.bcell (i := 0) rfl).trans rfl)) hS ?_
    -- r4.2 t18 := move  t7
    refine ol_pure rfl (op_move rfl) ?_
    -- r4.3 t19 := indexAddr [23] t17 t18
    refine ol_pure rfl (op_indexN sl_23 rfl rfl (by omega) (by assumption)) ?_
    -- r4.4 t20 := load [42] t19
    refine ol_load rfl (op_loadN agg_42 rfl (by rfl) (fun w hw k u hk => hw.gcell (hcells k u hk))) hS ?_
    -- r4.5 t8 := alloc [42] 
    refine ol_step rfl (op_alloc hS el_42 rfl) ?_
    clear hS
    rintro _ w ⟨b8, rfl, hS⟩
    -- r4.6 _ := store [42] t8 t20
    refine ol_step0  (op_storeN (j := 0) hS sz_42 rfl rfl rfl rfl rfl (by simp [Value.oneCell'])) ?_
    clear hS
    rintro _ w hS; (try simp only [List.nil_append, List.cons_append, List.set] at hS)
    refine ol_nil ?_
    refine pq_then ?_
    refine cw_seq ?_
    refine cw_region ?_
    -- r5.0 t21 := move  t1
    refine ol_pure rfl (op_move rfl) ?_
    -- r5.1 t22 := fieldAddr [42, 2] t8
    refine ol_pure rfl (op_fieldAddr fld_42_2 rfl) ?_
    -- r5.2 t23 := load [27] t22
    refine ol_load rfl (op_load1 one_27 rfl (fun w hw => (hw.bcell (i := 0) rfl).trans rfl)) hS ?_
    -- r5.3 t24 := call f29 t21 t23
    refine ol_step rfl (op_call_sc hS cf_29 rfl (R17_Any_c G _ hS.hold _ _ so rs[k].neg h3 hq hq0)) ?_
    clear hS
    rintro _ w ⟨rfl, hS⟩
    -- r5.4 t25 := not t24
    refine ol_pure rfl (op_not rfl) ?_
    -- r5.5 t26 := move  t25
    refine ol_pure rfl (op_move rfl) ?_
    refine ol_split (fun h26 => ?_) (fun h26 => ?_)
    · skip
      try simp only [decide_eq_true_eq, decide_eq_false_iff_not, Bool.not_eq_true', Bool.not_eq_false', Bool.not_eq_eq_eq_not, Bool.not_true, Bool.not_false] at h26
      -- r5.6 t27 := move  t2 ?5=True
      refine ol_guard_pure rfl rfl rfl (op_move rfl) ?_
      -- r5.7 t28 := fieldAddr [42, 1] t8 ?5=True
      refine ol_guard_pure rfl rfl rfl (op_fieldAddr fld_42_1 rfl) ?_
      -- r5.8 t29 := load [27] t28 ?5=True
      refine ol_guard_load rfl rfl rfl (op_load1 one_27 rfl (fun w hw => (hw.bcell (i := 0) rfl).trans rfl)) hS ?_
      -- r5.9 t30 := call f35 t27 t29 ?5=True
      refine ol_guard_step rfl rfl rfl (op_call_sc hS cf_35 rfl (R17_All_c G _ hS.hold _ _ x rs[k].pos h4 hp hp0)) ?_
      clear hS
      rintro _ w ⟨rfl, hS⟩
      -- r5.10 t31 := pick  t26 t30 Cfalse
      refine ol_pure rfl (op_pick_t rfl rfl) ?_
      -- r5.11 t32 := move  t31
      refine ol_pure rfl (op_move rfl) ?_
      refine ol_split (fun h32 => ?_) (fun h32 => ?_)
      · skip
        try simp only [decide_eq_true_eq, decide_eq_false_iff_not, Bool.not_eq_true', Bool.not_eq_false', Bool.not_eq_eq_eq_not, Bool.not_true, Bool.not_false] at h32
        -- r5.12 t33 := move  t2 ?11=True
        refine ol_guard_pure rfl rfl rfl (op_move rfl) ?_
        -- r5.13 t34 := fieldAddr [42, 0] t8 ?11=True
        refine ol_guard_pure rfl rfl rfl (op_fieldAddr fld_42_0 rfl) ?_
        -- r5.14 t35 := load [3] t34 ?11=True
        refine ol_guard_load rfl rfl rfl (op_load1 one_3 rfl (fun w hw => (hw.bcell (i := 0) rfl).trans rfl)) hS ?_
        -- r5.15 t36 := buildSlice [27, 1] 0:t35 ?11=True
        refine ol_guard_step rfl rfl rfl (op_buildSlice (el := 3) (is := [0]) (xs := [.tmp 35]) (sz := 1) (cs := [.int .i64 rs[k].head]) hS rfl rfl (fun w => by kernel_rfl) rfl (by decide)) ?_
        clear hS
        rintro _ w ⟨s36, rfl, hS⟩
        -- r5.16 t37 := call f35 t33 t36 ?11=True
        have hlend := SS.lend [] hS (by decide) EInt.mono (Rows.of_map (xs := [rs[k].head]) (f := Value.int .i64) (E := EInt) (fun y hy => ⟨rfl, by simp at hy; subst hy; exact hhd⟩)) rfl
        refine ol_guard_step rfl rfl rfl (op_call_sc hS cf_35 rfl (R17_All_c (fullG _) _ (Holds.full _) _ _ x [rs[k].head] (h4.mono EBool.mono hS.hold.le_full) hlend (fun y hy => by simp at hy; subst hy; exact hrk.1.1))) ?_
        clear hS
        rintro _ w ⟨rfl, hS⟩
        -- r5.17 t38 := not t37 ?11=True
        refine ol_guard_pure rfl rfl rfl (op_not rfl) ?_
        -- r5.18 t39 := pick  t32 t38 Cfalse
        refine ol_pure rfl (op_pick_t rfl rfl) ?_
        refine ol_nil ?_
        refine pq_then ?_
        refine cw_cond rfl (fun h39 => ?_) (fun h39 => ?_)
        · skip
          try simp only [decide_eq_true_eq, decide_eq_false_iff_not, Bool.not_eq_true', Bool.not_eq_false', Bool.not_eq_eq_eq_not, Bool.not_true, Bool.not_false] at h39
          refine cw_seq ?_
          refine cw_region ?_
          -- r6.0 t6 := assign  Cfalse
          refine ol_pure rfl (op_assign rfl) ?_
          refine ol_nil ?_
          refine pq_then ?_
          refine cw_ret ?_
          refine pq_in_ret ?_
          refine pq_ret ?_
          refine pq_ret ?_
          refine pq_in_ret ?_
          refine pq_ret ?_
          refine ret1 rfl rfl ?_
          -- ret1 h13t h26t h32t h39t
          exact hS.sc_b (by rw [closedB, Pl.all_false_at (fun r : Rule => !(!anyB so r.neg && allB x r.pos && !allB x [r.head])) _ _ hlt (by rw [h26, h32, h39]; rfl)])
        · skip
          try simp only [decide_eq_true_eq, decide_eq_false_iff_not, Bool.not_eq_true', Bool.not_eq_false', Bool.not_eq_eq_eq_not, Bool.not_true, Bool.not_false] at h39
          refine cw_skip ?_
          refine pq_in_normal ?_
          refine pq_then ?_
          refine cw_region ?_
          -- r3.0 t14 := move  t7
          refine ol_pure rfl (op_move rfl) ?_
          -- r3.1 t15 := add t14 C1
          refine ol_pure rfl (op_add rfl rfl (by omega) (by omega)) ?_
          -- r3.2 t7 := assign  t15
          refine ol_pure rfl (op_assign rfl) ?_
          refine ol_nil ?_
          -- end of round 1 h13t h26t h32t h39f
          refine pq_loop _ _ (by exact (by replace hS := SS.drop [] (SS.drop [] hS); exact ⟨k + 1, rfl, by omega, rfl, by rw [Pl.all_take_succ (fun r : Rule => !(!anyB so r.neg && allB x r.pos && !allB x [r.head])) _ _ hlt, hpa, h26, h32, h39]; rfl, hS⟩)) ((Sub.cons rfl (Sub.cons rfl (Sub.cons rfl (Sub.cons rfl Sub.nil))))) (by omega)
      · skip
        try simp only [decide_eq_true_eq, decide_eq_false_iff_not, Bool.not_eq_true', Bool.not_eq_false', Bool.not_eq_eq_eq_not, Bool.not_true, Bool.not_false] at h32
        refine ol_guard_no rfl rfl rfl rfl ?_
        refine ol_guard_no rfl rfl rfl rfl ?_
        refine ol_guard_no rfl rfl rfl rfl ?_
        refine ol_guard_no rfl rfl rfl rfl ?_
        refine ol_guard_no rfl rfl rfl rfl ?_
        refine ol_guard_no rfl rfl rfl rfl ?_
        -- r5.18 t39 := pick  t32 t38 Cfalse
        refine ol_pure rfl (op_pick_f rfl rfl) ?_
        refine ol_nil ?_
        refine pq_then ?_
        refine cw_cond_f rfl ?_
        refine cw_skip ?_
        refine pq_in_normal ?_
        refine pq_then ?_
        refine cw_region ?_
        -- r3.0 t14 := move  t7
        refine ol_pure rfl (op_move rfl) ?_
        -- r3.1 t15 := add t14 C1
        refine ol_pure rfl (op_add rfl rfl (by omega) (by omega)) ?_
        -- r3.2 t7 := assign  t15
        refine ol_pure rfl (op_assign rfl) ?_
        refine ol_nil ?_
        -- end of round 1 h13t h26t h32f
        refine pq_loop _ _ (by exact (by replace hS := SS.drop [] hS; exact ⟨k + 1, rfl, by omega, rfl, by rw [Pl.all_take_succ (fun r : Rule => !(!anyB so r.neg && allB x r.pos && !allB x [r.head])) _ _ hlt, hpa, h26, h32]; rfl, hS⟩)) ((Sub.cons rfl (Sub.cons rfl (Sub.cons rfl (Sub.cons rfl Sub.nil))))) (by omega)
    · skip
      try simp only [decide_eq_true_eq, decide_eq_false_iff_not, Bool.not_eq_true', Bool.not_eq_false', Bool.not_eq_eq_eq_not, Bool.not_true, Bool.not_false] at h26
      refine ol_guard_no rfl rfl rfl rfl ?_
      refine ol_guard_no rfl rfl rfl rfl ?_
      refine ol_guard_no rfl rfl rfl rfl ?_
      refine ol_guard_no rfl rfl rfl rfl ?_
      -- r5.10 t31 := pick  t26 t30 Cfalse
      refine ol_pure rfl (op_pick_f rfl rfl) ?_
      -- r5.11 t32 := move  t31
      refine ol_pure rfl (op_move rfl) ?_
      refine ol_guard_no rfl rfl rfl rfl ?_
      refine ol_guard_no rfl rfl rfl rfl ?_
      refine ol_guard_no rfl rfl rfl rfl ?_
      refine ol_guard_no rfl rfl rfl rfl ?_
      refine ol_guard_no rfl rfl rfl rfl ?_
      refine ol_guard_no rfl rfl rfl rfl ?_
      -- r5.18 t39 := pick  t32 t38 Cfalse
      refine ol_pure rfl (op_pick_f rfl rfl) ?_
      refine ol_nil ?_
      refine pq_then ?_
      refine cw_cond_f rfl ?_
      refine cw_skip ?_
      refine pq_in_normal ?_
      refine pq_then ?_
      refine cw_region ?_
      -- r3.0 t14 := move  t7
      refine ol_pure rfl (op_move rfl) ?_
      -- r3.1 t15 := add t14 C1
      refine ol_pure rfl (op_add rfl rfl (by omega) (by omega)) ?_
      -- r3.2 t7 := assign  t15
      refine ol_pure rfl (op_assign rfl) ?_
      refine ol_nil ?_
      -- end of round 1 h13t h26f
      refine pq_loop _ _ (by exact (by replace hS := SS.drop [] hS; exact ⟨k + 1, rfl, by omega, rfl, by rw [Pl.all_take_succ (fun r : Rule => !(!anyB so r.neg && allB x r.pos && !allB x [r.head])) _ _ hlt, hpa, h26]; rfl, hS⟩)) ((Sub.cons rfl (Sub.cons rfl (Sub.cons rfl (Sub.cons rfl Sub.nil))))) (by omega)
  · skip
    try simp only [decide_eq_true_eq, decide_eq_false_iff_not, Bool.not_eq_true', Bool.not_eq_false', Bool.not_eq_eq_eq_not, Bool.not_true, Bool.not_false] at h13
    refine cw_exit ?_
    refine pq_exit ?_
    refine pq_exit ?_
    refine pq_in_exit ?_
    refine pq_then ?_
    refine cw_seq ?_
    refine cw_region ?_
    -- r7.0 t6 := assign  Ctrue
    refine ol_pure rfl (op_assign rfl) ?_
    refine ol_nil ?_
    refine pq_then ?_
    refine cw_ret ?_
    refine ret1 rfl rfl ?_
    -- ret2 h13f
    exact hS.sc_b (by rw [closedB, Pl.all_of_take (fun r : Rule => !(!anyB so r.neg && allB x r.pos && !allB x [r.head])) _ _ (by omega) hpa])
set_option maxRecDepth 100000 in
set_option maxHeartbeats 400000 in

theorem L17_sides_c (G : GH) (w0 : World) (hG : Holds G w0) {α : Type} {E : ER α} (va vr : Value) (atoms : List α) (rs : List Rule) (h1 : RSl 1 E G va atoms) (h2 : RSl 3 ERule G vr rs) (hP : PrOk atoms.length rs) (vm : Value) (m : List Int) (h3 : RSl 1 EInt G vm m) :
    Calls Try.prog 24 #[.agg #[va, vr], vm] w0 (Rt noG w0 (fun G v => ∃ vl vh, v = .tuple #[vl, vh] ∧ RSl 1 EBool G vl (setB m atoms.length 2) ∧ RSl 1 EBool G vh (hiB m atoms.length))) := by
  obtain ⟨oA, cA, rfl, hlA, hmA⟩ := h1.elim
  obtain ⟨oR, cR, rfl, hlR, hmR⟩ := h2.elim
  have hPn := hP.n_le
  have hPm := hP.m_le
  obtain ⟨oM, cM, rfl, hlM, hmM⟩ := h3.elim
  refine enter Try.func24 rfl (N := 37) rfl (Nat.le_of_ble_eq_true rfl) ?_
  have hS := SS.init hG
  refine cw_seq ?_
  refine cw_region ?_
  -- r0.0 t2 := box [25] t0
  refine ol_step rfl (op_box hS rfl rfl) ?_
  clear hS
  rintro _ w ⟨b3, rfl, hS⟩
  -- r0.1 t4 := assign  C(slice (none Addr) 0 0)
  refine ol_pure rfl (op_assign rfl) ?_
  -- r0.2 t5 := assign  C(slice (none Addr) 0 0)
  refine ol_pure rfl (op_assign rfl) ?_
  refine ol_nil ?_
  refine pq_then ?_
  refine cw_seq ?_
  refine cw_region ?_
  -- r1.0 t9 := move  t1
  refine ol_pure rfl (op_move rfl) ?_
  -- r1.1 t10 := fieldAddr [25, 0] t2
  refine ol_pure rfl (op_fieldAddr fld_25_0 rfl) ?_
  -- r1.2 t11 := load [22] t10
  refine ol_load rfl (op_load1 one_22 rfl (fun w hw => (hw.bcell (i := 0) rfl).trans rfl)) hS ?_
  -- r1.3 t12 := call len t11
  refine ol_pure rfl (op_len sl_22 rfl rfl) ?_
  -- r1.4 t13 := call f39 t9 t12 C0
  refine ol_step rfl (op_call_fr hS cf_39 rfl (R17_Set_c _ _ hS.hold _ m atoms.length 0 h3 (by omega))) ?_
  clear hS
  rintro v13 w ⟨F13, G1, hR13, hF13, hf13, hl13, hS⟩
  obtain ⟨oN, cN, rfl, _, _⟩ := hR13.elimN (setB_length _ _ _)
  have hNo := hR13.mono EBool.mono hf13
  clear hR13 hf13
  -- r1.5 t6 := assign  t13
  refine ol_pure rfl (op_assign rfl) ?_
  refine ol_nil ?_
  refine pq_then ?_
  refine cw_seq ?_
  refine cw_region ?_
  -- r2.0 t14 := move  t6
  refine ol_pure rfl (op_move rfl) ?_
  -- r2.1 t15 := call len t14
  refine ol_pure rfl (op_len sl_26 rfl rfl) ?_
  -- r2.2 t16 := makeSlice [26] t15 t15
  refine ol_step rfl (op_makeSlice (n := atoms.length) hS sl_26 el_4 rfl rfl rfl (by omega) (by unfold maxLen; omega)) ?_
  clear hS
  rintro _ w ⟨hi, rfl, hS⟩
  -- r2.3 t7 := assign  t16
  refine ol_pure rfl (op_assign rfl) ?_
  refine ol_nil ?_
  refine pq_then ?_
  refine cw_seq ?_
  refine cw_seq ?_
  refine cw_region ?_
  -- r3.0 t8 := assign  C0
  refine ol_pure rfl (op_assign rfl) ?_
  refine ol_nil ?_
  refine pq_then ?_
  refine cw_block ?_
  refine cw_loop (fun e w n => ∃ k : Nat, e = [(1, .slice oM m.length cM), (2, .pointer (some ⟨b3, 0, none⟩)), (6, .slice oN atoms.length cN), (7, .slice hi atoms.length atoms.length), (8, .int .i64 (k : Nat))] ∧ k ≤ atoms.length ∧ n = atoms.length - k ∧ SS G w0 G1 [.row hi atoms.length atoms.length 4 1 (((hiB m atoms.length).take k).map Value.bool ++ List.replicate (atoms.length - k) (.bool false)), .blk b3 25 [.slice oA atoms.length cA, .slice oR rs.length cR]] w) _ _ (by exact ⟨0, rfl, Nat.zero_le _, rfl, by simpa using hS⟩) ((Sub.cons rfl (Sub.cons rfl (Sub.cons rfl (Sub.cons rfl (Sub.cons rfl Sub.nil)))))) ?_
  clear hS
  rintro e w n ⟨k, rfl, hk, rfl, hS⟩
  refine cw_seq ?_
  refine cw_seq ?_
  refine cw_region ?_
  -- r4.0 t17 := move  t8
  refine ol_pure rfl (op_move rfl) ?_
  -- r4.1 t18 := move  t6
  refine ol_pure rfl (op_move rfl) ?_
  -- r4.2 t19 := call len t18
  refine ol_pure rfl (op_len sl_26 rfl rfl) ?_
  -- r4.3 t20 := lss t17 t19
  refine ol_pure rfl (op_lss rfl rfl) ?_
  refine ol_nil ?_
  refine pq_then ?_
  refine cw_cond rfl (fun h20 => ?_) (fun h20 => ?_)
  · skip
    try simp only [decide_eq_true_eq, decide_eq_false_iff_not, Bool.not_eq_true', Bool.not_eq_false', Bool.not_eq_eq_eq_not, Bool.not_true, Bool.not_false] at h20
    have hlt : k < atoms.length := by omega
    have hlt' : k < (setB m atoms.length 0).length := by rw [setB_length]; exact hlt
    obtain ⟨hoN, hcN⟩ := hNo.bool hlt'
    have hoa := (hS.news (j := 0) rfl k _ (List.getElem?_eq_getElem (by simp [hiB, setB_length]; omega))).1
    refine cw_skip ?_
    refine pq_then ?_
    refine cw_seq ?_
    refine cw_block ?_
    refine cw_region ?_
    -- r6.0 t23 := move  t7
    refine ol_pure rfl (op_move rfl) ?_
    -- r6.1 t24 := move  t8
    refine ol_pure rfl (op_move rfl) ?_
    -- r6.2 t25 := move  t6
    refine ol_pure rfl (op_move rfl) ?_
    -- r6.3 t26 := move  t8
    refine ol_pure rfl (op_move rfl) ?_
    -- r6.4 t27 := indexAddr [26] t25 t26
    refine ol_pure rfl (op_indexN sl_26 rfl rfl (by omega) (by assumption)) ?_
    -- r6.5 t28 := load [4] t27
    refine ol_load rfl (op_load1 one_4 rfl (fun w hw => by first | exact hw.gcell (by assumption) | exact hw.gcell0 (by assumption))) hS ?_
    -- r6.6 t29 := not t28
    refine ol_pure rfl (op_not rfl) ?_
    -- r6.7 t30 := indexAddr [26] t23 t24
    refine ol_pure rfl (op_indexN sl_26 rfl rfl (by omega) (by assumption)) ?_
    -- r6.8 _ := store [4] t30 t29
    refine ol_step0  (op_storeR (j := 0) (k := k * 1) hS sz_4 rfl rfl rfl rfl (by simp [hiB, setB_length]; omega)) ?_
    clear hS
    rintro _ w hS; (try simp only [List.nil_append, List.cons_append, List.set] at hS)
    rw [fill_set Value.bool (.bool false) (hiB m atoms.length) atoms.length k (!(setB m atoms.length 0)[k]) hlt (by simp [hiB, hlt'])] at hS
    refine ol_nil ?_
    refine pq_in_normal ?_
    refine pq_then ?_
    refine cw_region ?_
    -- r5.0 t21 := move  t8
    refine ol_pure rfl (op_move rfl) ?_
    -- r5.1 t22 := add t21 C1
    refine ol_pure rfl (op_add rfl rfl (by omega) (by omega)) ?_
    -- r5.2 t8 := assign  t22
    refine ol_pure rfl (op_assign rfl) ?_
    refine ol_nil ?_
    -- end of round 1 h20t
    refine pq_loop _ _ (by exact ⟨k + 1, rfl, by omega, rfl, hS⟩) ((Sub.cons rfl (Sub.cons rfl (Sub.cons rfl (Sub.cons rfl (Sub.cons rfl Sub.nil)))))) (by omega)
  · skip
    try simp only [decide_eq_true_eq, decide_eq_false_iff_not, Bool.not_eq_true', Bool.not_eq_false', Bool.not_eq_eq_eq_not, Bool.not_true, Bool.not_false] at h20
    have hk0 : k = (hiB m atoms.length).length := by simp [hiB, setB_length]; omega
    have hhl : atoms.length = (hiB m atoms.length).length := by simp [hiB, setB_length]
    rw [hk0, Nat.sub_eq_zero_of_le (by omega), List.replicate_zero, List.append_nil, List.take_length] at hS
    obtain ⟨F2, G2, hHi, hF2, hf2, hl2, hS2⟩ := SS.give_fr (hiB m atoms.length) [] EBool.mono hS (by decide) (Rows.bools _) hhl
    clear hS
    have hS := hS2
    clear hS2
    refine cw_exit ?_
    refine pq_exit ?_
    refine pq_exit ?_
    refine pq_in_exit ?_
    refine pq_then ?_
    refine cw_seq ?_
    refine cw_region ?_
    -- r7.0 t31 := move  t1
    refine ol_pure rfl (op_move rfl) ?_
    -- r7.1 t32 := fieldAddr [25, 0] t2
    refine ol_pure rfl (op_fieldAddr fld_25_0 rfl) ?_
    -- r7.2 t33 := load [22] t32
    refine ol_load rfl (op_load1 one_22 rfl (fun w hw => (hw.bcell (i := 0) rfl).trans rfl)) hS ?_
    -- r7.3 t34 := call len t33
    refine ol_pure rfl (op_len sl_22 rfl rfl) ?_
    -- r7.4 t35 := call f39 t31 t34 C2
    refine ol_step rfl (op_call_fr hS cf_39 rfl (R17_Set_c _ _ hS.hold _ m atoms.length 2 (h3.mono EInt.mono (hl13.trans hl2)) (by omega))) ?_
    clear hS
    rintro v35 w ⟨F35, G3, hR35, hF35, hf35, hl35, hS⟩
    obtain ⟨oL, cL, rfl, _, _⟩ := hR35.elimN (setB_length _ _ _)
    -- r7.5 t36 := move  t7
    refine ol_pure rfl (op_move rfl) ?_
    -- r7.6 t4 := assign  t35
    refine ol_pure rfl (op_assign rfl) ?_
    -- r7.7 t5 := assign  t36
    refine ol_pure rfl (op_assign rfl) ?_
    refine ol_nil ?_
    refine pq_then ?_
    refine cw_ret ?_
    refine ret2 rfl rfl rfl ?_
    -- ret1 h20f
    obtain ⟨J, hj1, hj2, hjG, hjF⟩ := join_fr (w0 := w0) hS.hold hf35 (hf2.trans hl35) hF35 hF2
    exact hS.rt_fr hjG hjF ⟨_, _, rfl, hR35.mono EBool.mono hj1, hHi.mono EBool.mono hj2⟩
end Go.Proofs.Ytegjmfcfjedfjaa.K
