/-
  gc: which slots are needed.
  No condition but the premises that each theorem names.
-/
import Derived.Test.YtnmkffkalnkbbaaHp2
namespace Go.Proofs.Ytnmkffkalnkbbaa.K
open Go Go.RowKit
set_option linter.unusedVariables false
set_option linter.unusedSimpArgs false

open Pl
/-- The blocks of a look: its own, what is marked, what is to be looked at. -/
def LkS (b : Nat) (va vb vr : Value) (ol oR : Option Addr) (cR : Nat) (S : List Bool) (R : List Int) : List Ent :=
  [.blk b 72 [va, vb, vr, .slice ol S.length S.length, .slice oR R.length cR], .row ol S.length S.length 4 1 (S.map Value.bool), .row oR R.length cR 3 1 (R.map (Value.int .i64))]
theorem leadsG_of {cs : List Cell} {p : Nat} (h : p < cs.length) : leadsG cs (p : Int) = if cs[p].kind = 1 ∨ cs[p].kind = 3 then [cs[p].n] else if cs[p].kind = 4 then upI p cs[p].n.toNat else [] := leadsG_at h
theorem leadsG_len {cs : List Cell} (hs : ShOk cs) {p : Nat} (h : p < cs.length) : (leadsG cs (p : Int)).length ≤ 6 := by
  rw [leadsG_of h]
  have hso := hs p h
  unfold SlotOk at hso
  split
  · simp
  · split
    · rw [upI_len]; omega
    · simp
theorem needS_oth {n : Nat} {S : List Bool} {R : List Int} {a : Int} (h : ¬ (0 ≤ a ∧ a < n ∧ atB S a = false)) : needS n (S, R) a = (S, R) := by
  unfold needS
  rw [if_neg h]
theorem needS_fl1 (n : Nat) : ∀ (l : List Int) (st : List Bool × List Int), (l.foldl (needS n) st).1.length = st.1.length
  | [], _ => rfl
  | a :: l, st => by
    rw [List.foldl_cons, needS_fl1 n l, (needS_len n st a).1]

set_option maxRecDepth 100000 in

theorem gc_look_need_c {G0 G : GH} {w0 w : World} {M : List Ent} {b : Nat} {va vb vr : Value} {ol oR : Option Addr} {cR : Nat} {S : List Bool} {R : List Int} (hS : SS G0 w0 G (LkS b va vb vr ol oR cR S R ++ M) w) (a : Int) (hR : R.length ≤ 100000000) :
   Calls Try.prog 33 #[.pointer (some ⟨b, 0, none⟩), .int .i64 a] w (fun en w' => en = .returned (.tuple #[]) ∧ ∃ oR' cR', SS G0 w0 G (LkS b va vb vr ol oR' cR' (needS S.length (S, R) a).1 (needS S.length (S, R) a).2 ++ M) w') := by
 refine enter Try.func33 rfl (N := 41) rfl (Nat.le_of_ble_eq_true rfl) ?_
 unfold LkS at hS
 simp only [List.cons_append, List.nil_append] at hS
 refine cw_seq (cw_region (ol_pure rfl (op_move rfl) (ol_pure rfl (op_geq rfl rfl) (ol_pure rfl (op_move rfl) ?_))))
 refine ol_split (fun h6 => ?_) (fun h6 => ?_)
 ·
  try simp only [dqT, dqF, dq1, dq2, dq3, dq4, dq5] at h6
  refine ol_guard_pure rfl rfl rfl (op_move rfl) (ol_guard_pure rfl rfl rfl (op_move rfl) (ol_guard_pure rfl rfl rfl (op_nilCheck rfl) (ol_guard_pure rfl rfl rfl (op_fieldAddr fld_72_1 rfl) (ol_guard_load rfl rfl rfl (op_load1 one_34 rfl (fun w hw => (hw.bcell (i := 0) rfl).trans rfl)) hS (ol_guard_pure rfl rfl rfl (op_len sl_34 rfl rfl) (ol_guard_pure rfl rfl rfl (op_lss rfl rfl) (ol_pure rfl (op_pick_t rfl rfl) ?_)))))))
  refine ol_pure rfl (op_move rfl) ?_
  refine ol_split (fun h15 => ?_) (fun h15 => ?_)
  ·
   try simp only [dqT, dqF, dq1, dq2, dq3, dq4, dq5] at h15
   obtain ⟨k, rfl⟩ := Int.eq_ofNat_of_zero_le h6
   have hk : k < S.length := by omega
   have hac : (S.map Value.bool)[k * 1]? = some (.bool (atB S (k : Int))) := by simp [atB_nat, hk]
   have hoS := (hS.news (j := 1) rfl _ _ hac).1
   refine ol_guard_pure rfl rfl rfl (op_move rfl) (ol_guard_pure rfl rfl rfl (op_nilCheck rfl) (ol_guard_pure rfl rfl rfl (op_fieldAddr fld_72_1 rfl) (ol_guard_load rfl rfl rfl (op_load1 one_34 rfl (fun w hw => (hw.bcell (i := 0) rfl).trans rfl)) hS (ol_guard_pure rfl rfl rfl (op_move rfl) (ol_guard_pure rfl rfl rfl (op_indexN sl_34 rfl rfl (by omega) hoS) (ol_guard_load rfl rfl rfl (op_load1 one_4 rfl (fun w hw => hw.rcell (i := 1) rfl hac)) hS (ol_guard_pure rfl rfl rfl (op_not rfl) ?_)))))))
   refine ol_pure rfl (op_pick_t rfl rfl) (ol_nil (pq_then ?_))
   refine cw_cond rfl (fun h24 => ?_) (fun h24 => ?_)
   ·
    try simp only [dqT, dqF, dq1, dq2, dq3, dq4, dq5] at h24
    refine cw_seq (cw_region (ol_pure rfl (op_move rfl) (ol_pure rfl (op_nilCheck rfl) (ol_pure rfl (op_fieldAddr fld_72_1 rfl) (ol_load rfl (op_load1 one_34 rfl (fun w hw => (hw.bcell (i := 0) rfl).trans rfl)) hS (ol_pure rfl (op_move rfl) (ol_pure rfl (op_indexN sl_34 rfl rfl (by omega) hoS) ?_)))))))
    refine ol_step0  (op_storeR (j := 1) (k := k * 1) hS sz_4 rfl rfl rfl rfl (by simpa using hk)) ?_
    clear hS
    rintro _ w hS; (try simp only [List.nil_append, List.cons_append, List.set] at hS)
    rw [Nat.mul_one, ← List.map_set] at hS
    refine ol_nil (pq_then (cw_region (ol_pure rfl (op_move rfl) (ol_pure rfl (op_move rfl) (ol_pure rfl (op_nilCheck rfl) (ol_pure rfl (op_fieldAddr fld_72_2 rfl) (ol_load rfl (op_load1 one_26 rfl (fun w hw => (hw.bcell (i := 0) rfl).trans rfl)) hS ?_)))))))
    refine ol_pure rfl (op_move rfl) ?_
    refine ol_step rfl (op_buildSlice (el := 3) (is := [0]) (xs := [.tmp 36]) (sz := 1) (cs := [.int .i64 (k : Nat)]) hS rfl rfl (fun w => by kernel_rfl) rfl (by decide)) ?_
    clear hS
    rintro _ w ⟨s37, rfl, hS⟩
    refine ol_step rfl (op_append (j := 3) hS sl_26 el_3 rfl rfl rfl rfl rfl rfl (by decide) (hS.news (j := 0) rfl) (by simp [Value.oneCell']) (by omega) (by unfold maxLen; omega)) ?_
    clear hS
    rintro _ w ⟨oq, c_oq, rfl, hS⟩; (try simp only [List.nil_append, List.cons_append, List.set] at hS); replace hS := SS.drop [] hS; (try simp only [List.nil_append, List.cons_append] at hS)
    refine ol_pure rfl (op_nilCheck rfl) (ol_pure rfl (op_fieldAddr fld_72_2 rfl) ?_)
    refine ol_step0  (op_storeB (j := 0) (k := 4) hS sz_26 rfl rfl rfl rfl (by simp)) ?_
    clear hS
    rintro _ w hS; (try simp only [List.nil_append, List.cons_append, List.set] at hS)
    refine ol_nil ?_
    refine end0 rfl ?_
    rw [needS_in (by omega) (by omega), if_pos (by simpa using h24)]
    refine ⟨rfl, oq, c_oq, ?_⟩
    simpa [LkS] using hS
   ·
    try simp only [dqT, dqF, dq1, dq2, dq3, dq4, dq5] at h24
    refine cw_skip ?_
    refine end0 rfl ?_
    rw [needS_oth (fun hh => by have := hh.2.2; simp [this] at h24)]
    exact ⟨rfl, oR, cR, by simpa [LkS] using hS⟩
  ·
   try simp only [dqT, dqF, dq1, dq2, dq3, dq4, dq5] at h15
   have hno := needS_oth (n := S.length) (S := S) (R := R) (a := a) (fun hh => by omega)
   refine ol_guard_no rfl rfl rfl rfl (ol_guard_no rfl rfl rfl rfl (ol_guard_no rfl rfl rfl rfl (ol_guard_no rfl rfl rfl rfl (ol_guard_no rfl rfl rfl rfl (ol_guard_no rfl rfl rfl rfl (ol_guard_no rfl rfl rfl rfl (ol_guard_no rfl rfl rfl rfl ?_)))))))
   refine ol_pure rfl (op_pick_f rfl rfl) (ol_nil (pq_then (cw_cond_f rfl (cw_skip ?_))))
   refine end0 rfl ?_
   rw [hno]
   exact ⟨rfl, oR, cR, by simpa [LkS] using hS⟩
 ·
  try simp only [dqT, dqF, dq1, dq2, dq3, dq4, dq5] at h6
  refine ol_guard_no rfl rfl rfl rfl (ol_guard_no rfl rfl rfl rfl (ol_guard_no rfl rfl rfl rfl (ol_guard_no rfl rfl rfl rfl (ol_guard_no rfl rfl rfl rfl (ol_guard_no rfl rfl rfl rfl (ol_guard_no rfl rfl rfl rfl (ol_pure rfl (op_pick_f rfl rfl) ?_)))))))
  refine ol_pure rfl (op_move rfl) (ol_guard_no rfl rfl rfl rfl (ol_guard_no rfl rfl rfl rfl (ol_guard_no rfl rfl rfl rfl (ol_guard_no rfl rfl rfl rfl (ol_guard_no rfl rfl rfl rfl (ol_guard_no rfl rfl rfl rfl (ol_guard_no rfl rfl rfl rfl ?_)))))))
  refine ol_guard_no rfl rfl rfl rfl (ol_pure rfl (op_pick_f rfl rfl) (ol_nil (pq_then (cw_cond_f rfl (cw_skip ?_)))))
  refine end0 rfl ?_
  rw [needS_oth (fun hh => by omega)]
  exact ⟨rfl, oR, cR, by simpa [LkS] using hS⟩
set_option maxRecDepth 100000 in
set_option maxHeartbeats 400000 in

theorem gc_look_leads_c {G0 G : GH} {w0 w : World} {M : List Ent} {b : Nat} {oc : Option Addr} {cc : Nat} {vb vr : Value} {ol oR : Option Addr} {cR : Nat} {S : List Bool} {R : List Int} {cs : List Cell} (hS : SS G0 w0 G (LkS b (.slice oc cs.length cc) vb vr ol oR cR S R ++ M) w) (h1 : RSl 3 ECell G (.slice oc cs.length cc) cs) (p : Nat) (hp : p < cs.length) (hs : ShOk cs) (hSl : S.length = cs.length) (hR : R.length ≤ 10000000) :
   Calls Try.prog 34 #[.pointer (some ⟨b, 0, none⟩), .int .i64 (p : Nat), .func (.func 33) #[.pointer (some ⟨b, 0, none⟩)] #[]] w (fun en w' => en = .returned (.tuple #[]) ∧ ∃ oR' cR', SS G0 w0 G (LkS b (.slice oc cs.length cc) vb vr ol oR' cR' ((leadsG cs p).foldl (needS cs.length) (S, R)).1 ((leadsG cs p).foldl (needS cs.length) (S, R)).2 ++ M) w') := by
 obtain ⟨hoa, hbd, hcells⟩ := h1.cellAt hp
 have hlg := leadsG_of hp
 have hso := hs p hp
 unfold SlotOk at hso
 have hle := h1.le
 refine enter Try.func34 rfl (N := 39) rfl (Nat.le_of_ble_eq_true rfl) ?_
 unfold LkS at hS
 simp only [List.cons_append, List.nil_append] at hS
 refine cw_seq (cw_region (ol_pure rfl (op_move rfl) (ol_pure rfl (op_nilCheck rfl) (ol_pure rfl (op_fieldAddr fld_72_0 rfl) (ol_pure rfl (op_fieldAddr2 (o := 0) (q := 0) fld_28_0 rfl (by decide)) (ol_load rfl (op_load1 one_25 rfl (fun w hw => (hw.bcell (i := 0) rfl).trans rfl)) hS (ol_pure rfl (op_move rfl) ?_)))))))
 refine ol_pure rfl (op_indexN sl_25 rfl rfl (by omega) hoa) (ol_load rfl (op_loadN agg_49 rfl (by rfl) (fun w hw k u hk => hw.gcell (hcells k u hk))) hS ?_)
 refine ol_step rfl (op_alloc hS el_49 rfl) ?_
 clear hS
 rintro _ w ⟨b6, rfl, hS⟩
 refine ol_step0  (op_storeN (j := 0) hS sz_49 rfl rfl rfl rfl rfl (by simp [Value.oneCell'])) ?_
 clear hS
 rintro _ w hS; (try simp only [List.nil_append, List.cons_append, List.set] at hS)
 refine ol_nil (pq_then (cw_seq ?_))
 replace hS := SS.back1 [_, _, _] hS
 simp only [List.cons_append, List.nil_append] at hS
 refine cw_region (ol_pure rfl (op_fieldAddr fld_49_0 rfl) (ol_load rfl (op_load1 one_3 rfl (fun w hw => (hw.bcell (i := 3) rfl).trans rfl)) hS (ol_nil (pq_then (cw_block (cw_seq (cw_seq ?_)))))))
 refine cw_region (ol_pure rfl (op_eql rfl rfl) (ol_pure rfl (op_assign rfl) (ol_nil (pq_then ?_))))
 refine cw_cond rfl (fun h18 => ?_) (fun h18 => ?_)
 ·
  try simp only [dqT, dqF, dq1, dq2, dq3, dq4, dq5] at h18
  refine cw_skip (pq_then ?_)
  refine cw_cond rfl (fun h18 => ?_) (fun h18 => ?_)
  ·
   try simp only [dqT, dqF, dq1, dq2, dq3, dq4, dq5] at h18
   refine cw_region (ol_pure rfl (op_move rfl) (ol_pure rfl (op_fieldAddr fld_49_2 rfl) (ol_load rfl (op_load1 one_3 rfl (fun w hw => (hw.bcell (i := 3) rfl).trans rfl)) hS ?_)))
   have hS2 : SS G0 w0 G (LkS b (.slice oc cs.length cc) vb vr ol oR cR S R ++ .blk b6 49 [.int .i64 cs[p].kind, .string cs[p].name, .int .i64 cs[p].n] :: M) w := hS
   refine ol_step rfl (op_callvu (cs := []) cf_33 rfl rfl (gc_look_need_c hS2 cs[p].n (by omega))) ?_
   clear hS
   rintro _ w ⟨rfl, oR', cR', hS⟩
   rw [hSl] at hS
   refine ol_nil (pq_in_normal ?_)
   refine end0 rfl ?_
   first
   | (exfalso; omega)
   | (have hx : cs[p].kind = 1 ∨ cs[p].kind = 3 := by omega
      rw [hlg, if_pos hx]
      exact ⟨rfl, oR', cR', SS.drop (LkS b (.slice oc cs.length cc) vb vr ol oR' cR' (needS cs.length (S, R) cs[p].n).1 (needS cs.length (S, R) cs[p].n).2) hS⟩)
   | (have hx : cs[p].kind = 4 := by omega
      have hkn : cs[p].n.toNat = k := by omega
      rw [hlg, if_neg (by omega), if_pos hx, hkn]
      exact ⟨rfl, oR', cR', SS.drop (LkS b (.slice oc cs.length cc) vb vr ol oR' cR' ((upI p k).foldl (needS cs.length) (S, R)).1 ((upI p k).foldl (needS cs.length) (S, R)).2) hS⟩)
   | (have hS2 : SS G0 w0 G (LkS b (.slice oc cs.length cc) vb vr ol oR cR S R ++ .blk b6 49 [.int .i64 cs[p].kind, .string cs[p].name, .int .i64 cs[p].n] :: M) w := hS
      rw [hlg, if_neg (by omega), if_neg (by omega)]
      exact ⟨rfl, oR, cR, SS.drop (LkS b (.slice oc cs.length cc) vb vr ol oR cR S R) hS2⟩)
  ·
   try simp only [dqT, dqF, dq1, dq2, dq3, dq4, dq5] at h18
   refine cw_seq (cw_region (ol_pure rfl (op_eql rfl rfl) (ol_pure rfl (op_assign rfl) (ol_nil (pq_then ?_)))))
   refine cw_cond rfl (fun h25 => ?_) (fun h25 => ?_)
   ·
    try simp only [dqT, dqF, dq1, dq2, dq3, dq4, dq5] at h25
    refine cw_seq ?_
    have hS2 : SS G0 w0 G (LkS b (.slice oc cs.length cc) vb vr ol oR cR S R ++ .blk b6 49 [.int .i64 cs[p].kind, .string cs[p].name, .int .i64 cs[p].n] :: M) w := hS
    refine cw_region (ol_pure rfl (op_fieldAddr fld_49_2 rfl) (ol_load rfl (op_load1 one_3 rfl (fun w hw => (hw.bcell (i := 3) rfl).trans rfl)) hS (ol_pure rfl (op_move rfl) (ol_nil (pq_then (cw_block ?_))))))
    refine cw_loop (fun e w n => ∃ (k : Nat) (oR' : Option Addr) (cR' : Nat), e = [(1, .int .i64 (p : Nat)), (2, .func (.func 33) #[.pointer (some ⟨b, 0, none⟩)] #[]), (28, .int .i64 cs[p].n), (29, .int .i64 (k : Nat))] ∧ (k : Int) ≤ cs[p].n ∧ n = cs[p].n.toNat - k ∧ SS G0 w0 G (LkS b (.slice oc cs.length cc) vb vr ol oR' cR' ((upI p k).foldl (needS cs.length) (S, R)).1 ((upI p k).foldl (needS cs.length) (S, R)).2 ++ .blk b6 49 [.int .i64 cs[p].kind, .string cs[p].name, .int .i64 cs[p].n] :: M) w) _ _ (by exact ⟨0, oR, cR, rfl, by omega, rfl, hS2⟩) ((Sub.cons rfl (Sub.cons rfl (Sub.cons rfl (Sub.cons rfl Sub.nil))))) ?_
    clear hS
    rintro e w n ⟨k, oR', cR', rfl, hk, rfl, hS⟩
    have hSe : ((upI p k).foldl (needS cs.length) (S, R)).1.length = cs.length := (needS_fl1 cs.length (upI p k) (S, R)).trans hSl
    refine cw_seq (cw_region (ol_pure rfl (op_lss rfl rfl) (ol_nil (pq_then (cw_seq ?_)))))
    refine cw_cond rfl (fun h30 => ?_) (fun h30 => ?_)
    ·
     try simp only [dqT, dqF, dq1, dq2, dq3, dq4, dq5] at h30
     have hfe : ((upI p (k + 1)).foldl (needS cs.length) (S, R)) = needS cs.length ((upI p k).foldl (needS cs.length) (S, R)) (p + 1 + k) := by rw [upI_succ, List.foldl_append]; rfl
     have hfl := needS_flen cs.length (upI p k) (S, R)
     rw [upI_len] at hfl
     simp only at hfl
     refine cw_skip (pq_then (cw_seq (cw_block (cw_seq (cw_region (ol_pure rfl (op_move rfl) (ol_pure rfl (op_assign rfl) ?_)))))))
     refine ol_nil (pq_then (cw_region (ol_pure rfl (op_move rfl) (ol_pure rfl (op_move rfl) (ol_pure rfl (op_add rfl rfl (by omega) (by omega)) (ol_pure rfl (op_move rfl) (ol_pure rfl (op_add rfl rfl (by omega) (by omega)) ?_)))))))
     refine ol_step rfl (op_callvu (cs := []) cf_33 rfl rfl (gc_look_need_c hS (p + 1 + k) (by omega))) ?_
     clear hS
     rintro _ w ⟨rfl, oR', cR', hS⟩
     rw [hSe, ← hfe] at hS
     refine ol_nil (pq_in_normal (pq_then (cw_region (ol_pure rfl (op_add rfl rfl (by omega) (by omega)) (ol_pure rfl (op_move rfl) (ol_nil ?_))))))
     refine pq_loop _ _ (by exact ⟨k + 1, oR', cR', rfl, by omega, rfl, hS⟩) ((Sub.cons rfl (Sub.cons rfl (Sub.cons rfl (Sub.cons rfl Sub.nil))))) (by omega)
    ·
     try simp only [dqT, dqF, dq1, dq2, dq3, dq4, dq5] at h30
     refine cw_exit (pq_exit (pq_exit (pq_in_exit (pq_in_normal ?_))))
     refine end0 rfl ?_
     first
     | (exfalso; omega)
     | (have hx : cs[p].kind = 1 ∨ cs[p].kind = 3 := by omega
        rw [hlg, if_pos hx]
        exact ⟨rfl, oR', cR', SS.drop (LkS b (.slice oc cs.length cc) vb vr ol oR' cR' (needS cs.length (S, R) cs[p].n).1 (needS cs.length (S, R) cs[p].n).2) hS⟩)
     | (have hx : cs[p].kind = 4 := by omega
        have hkn : cs[p].n.toNat = k := by omega
        rw [hlg, if_neg (by omega), if_pos hx, hkn]
        exact ⟨rfl, oR', cR', SS.drop (LkS b (.slice oc cs.length cc) vb vr ol oR' cR' ((upI p k).foldl (needS cs.length) (S, R)).1 ((upI p k).foldl (needS cs.length) (S, R)).2) hS⟩)
     | (have hS2 : SS G0 w0 G (LkS b (.slice oc cs.length cc) vb vr ol oR cR S R ++ .blk b6 49 [.int .i64 cs[p].kind, .string cs[p].name, .int .i64 cs[p].n] :: M) w := hS
        rw [hlg, if_neg (by omega), if_neg (by omega)]
        exact ⟨rfl, oR, cR, SS.drop (LkS b (.slice oc cs.length cc) vb vr ol oR cR S R) hS2⟩)
   ·
    try simp only [dqT, dqF, dq1, dq2, dq3, dq4, dq5] at h25
    refine cw_skip (pq_in_normal ?_)
    refine end0 rfl ?_
    first
    | (exfalso; omega)
    | (have hx : cs[p].kind = 1 ∨ cs[p].kind = 3 := by omega
       rw [hlg, if_pos hx]
       exact ⟨rfl, oR', cR', SS.drop (LkS b (.slice oc cs.length cc) vb vr ol oR' cR' (needS cs.length (S, R) cs[p].n).1 (needS cs.length (S, R) cs[p].n).2) hS⟩)
    | (have hx : cs[p].kind = 4 := by omega
       have hkn : cs[p].n.toNat = k := by omega
       rw [hlg, if_neg (by omega), if_pos hx, hkn]
       exact ⟨rfl, oR', cR', SS.drop (LkS b (.slice oc cs.length cc) vb vr ol oR' cR' ((upI p k).foldl (needS cs.length) (S, R)).1 ((upI p k).foldl (needS cs.length) (S, R)).2) hS⟩)
    | (have hS2 : SS G0 w0 G (LkS b (.slice oc cs.length cc) vb vr ol oR cR S R ++ .blk b6 49 [.int .i64 cs[p].kind, .string cs[p].name, .int .i64 cs[p].n] :: M) w := hS
       rw [hlg, if_neg (by omega), if_neg (by omega)]
       exact ⟨rfl, oR, cR, SS.drop (LkS b (.slice oc cs.length cc) vb vr ol oR cR S R) hS2⟩)
 ·
  try simp only [dqT, dqF, dq1, dq2, dq3, dq4, dq5] at h18
  refine cw_region (ol_pure rfl (op_eql rfl rfl) (ol_pure rfl (op_assign rfl) (ol_nil (pq_then ?_))))
  refine cw_cond rfl (fun h18 => ?_) (fun h18 => ?_)
  ·
   try simp only [dqT, dqF, dq1, dq2, dq3, dq4, dq5] at h18
   refine cw_region (ol_pure rfl (op_move rfl) (ol_pure rfl (op_fieldAddr fld_49_2 rfl) (ol_load rfl (op_load1 one_3 rfl (fun w hw => (hw.bcell (i := 3) rfl).trans rfl)) hS ?_)))
   have hS2 : SS G0 w0 G (LkS b (.slice oc cs.length cc) vb vr ol oR cR S R ++ .blk b6 49 [.int .i64 cs[p].kind, .string cs[p].name, .int .i64 cs[p].n] :: M) w := hS
   refine ol_step rfl (op_callvu (cs := []) cf_33 rfl rfl (gc_look_need_c hS2 cs[p].n (by omega))) ?_
   clear hS
   rintro _ w ⟨rfl, oR', cR', hS⟩
   rw [hSl] at hS
   refine ol_nil (pq_in_normal ?_)
   refine end0 rfl ?_
   first
   | (exfalso; omega)
   | (have hx : cs[p].kind = 1 ∨ cs[p].kind = 3 := by omega
      rw [hlg, if_pos hx]
      exact ⟨rfl, oR', cR', SS.drop (LkS b (.slice oc cs.length cc) vb vr ol oR' cR' (needS cs.length (S, R) cs[p].n).1 (needS cs.length (S, R) cs[p].n).2) hS⟩)
   | (have hx : cs[p].kind = 4 := by omega
      have hkn : cs[p].n.toNat = k := by omega
      rw [hlg, if_neg (by omega), if_pos hx, hkn]
      exact ⟨rfl, oR', cR', SS.drop (LkS b (.slice oc cs.length cc) vb vr ol oR' cR' ((upI p k).foldl (needS cs.length) (S, R)).1 ((upI p k).foldl (needS cs.length) (S, R)).2) hS⟩)
   | (have hS2 : SS G0 w0 G (LkS b (.slice oc cs.length cc) vb vr ol oR cR S R ++ .blk b6 49 [.int .i64 cs[p].kind, .string cs[p].name, .int .i64 cs[p].n] :: M) w := hS
      rw [hlg, if_neg (by omega), if_neg (by omega)]
      exact ⟨rfl, oR, cR, SS.drop (LkS b (.slice oc cs.length cc) vb vr ol oR cR S R) hS2⟩)
  ·
   try simp only [dqT, dqF, dq1, dq2, dq3, dq4, dq5] at h18
   refine cw_seq (cw_region (ol_pure rfl (op_eql rfl rfl) (ol_pure rfl (op_assign rfl) (ol_nil (pq_then ?_)))))
   refine cw_cond rfl (fun h25 => ?_) (fun h25 => ?_)
   ·
    try simp only [dqT, dqF, dq1, dq2, dq3, dq4, dq5] at h25
    refine cw_seq ?_
    have hS2 : SS G0 w0 G (LkS b (.slice oc cs.length cc) vb vr ol oR cR S R ++ .blk b6 49 [.int .i64 cs[p].kind, .string cs[p].name, .int .i64 cs[p].n] :: M) w := hS
    refine cw_region (ol_pure rfl (op_fieldAddr fld_49_2 rfl) (ol_load rfl (op_load1 one_3 rfl (fun w hw => (hw.bcell (i := 3) rfl).trans rfl)) hS (ol_pure rfl (op_move rfl) (ol_nil (pq_then (cw_block ?_))))))
    refine cw_loop (fun e w n => ∃ (k : Nat) (oR' : Option Addr) (cR' : Nat), e = [(1, .int .i64 (p : Nat)), (2, .func (.func 33) #[.pointer (some ⟨b, 0, none⟩)] #[]), (28, .int .i64 cs[p].n), (29, .int .i64 (k : Nat))] ∧ (k : Int) ≤ cs[p].n ∧ n = cs[p].n.toNat - k ∧ SS G0 w0 G (LkS b (.slice oc cs.length cc) vb vr ol oR' cR' ((upI p k).foldl (needS cs.length) (S, R)).1 ((upI p k).foldl (needS cs.length) (S, R)).2 ++ .blk b6 49 [.int .i64 cs[p].kind, .string cs[p].name, .int .i64 cs[p].n] :: M) w) _ _ (by exact ⟨0, oR, cR, rfl, by omega, rfl, hS2⟩) ((Sub.cons rfl (Sub.cons rfl (Sub.cons rfl (Sub.cons rfl Sub.nil))))) ?_
    clear hS
    rintro e w n ⟨k, oR', cR', rfl, hk, rfl, hS⟩
    have hSe : ((upI p k).foldl (needS cs.length) (S, R)).1.length = cs.length := (needS_fl1 cs.length (upI p k) (S, R)).trans hSl
    refine cw_seq (cw_region (ol_pure rfl (op_lss rfl rfl) (ol_nil (pq_then (cw_seq ?_)))))
    refine cw_cond rfl (fun h30 => ?_) (fun h30 => ?_)
    ·
     try simp only [dqT, dqF, dq1, dq2, dq3, dq4, dq5] at h30
     have hfe : ((upI p (k + 1)).foldl (needS cs.length) (S, R)) = needS cs.length ((upI p k).foldl (needS cs.length) (S, R)) (p + 1 + k) := by rw [upI_succ, List.foldl_append]; rfl
     have hfl := needS_flen cs.length (upI p k) (S, R)
     rw [upI_len] at hfl
     simp only at hfl
     refine cw_skip (pq_then (cw_seq (cw_block (cw_seq (cw_region (ol_pure rfl (op_move rfl) (ol_pure rfl (op_assign rfl) ?_)))))))
     refine ol_nil (pq_then (cw_region (ol_pure rfl (op_move rfl) (ol_pure rfl (op_move rfl) (ol_pure rfl (op_add rfl rfl (by omega) (by omega)) (ol_pure rfl (op_move rfl) (ol_pure rfl (op_add rfl rfl (by omega) (by omega)) ?_)))))))
     refine ol_step rfl (op_callvu (cs := []) cf_33 rfl rfl (gc_look_need_c hS (p + 1 + k) (by omega))) ?_
     clear hS
     rintro _ w ⟨rfl, oR', cR', hS⟩
     rw [hSe, ← hfe] at hS
     refine ol_nil (pq_in_normal (pq_then (cw_region (ol_pure rfl (op_add rfl rfl (by omega) (by omega)) (ol_pure rfl (op_move rfl) (ol_nil ?_))))))
     refine pq_loop _ _ (by exact ⟨k + 1, oR', cR', rfl, by omega, rfl, hS⟩) ((Sub.cons rfl (Sub.cons rfl (Sub.cons rfl (Sub.cons rfl Sub.nil))))) (by omega)
    ·
     try simp only [dqT, dqF, dq1, dq2, dq3, dq4, dq5] at h30
     refine cw_exit (pq_exit (pq_exit (pq_in_exit (pq_in_normal ?_))))
     refine end0 rfl ?_
     first
     | (exfalso; omega)
     | (have hx : cs[p].kind = 1 ∨ cs[p].kind = 3 := by omega
        rw [hlg, if_pos hx]
        exact ⟨rfl, oR', cR', SS.drop (LkS b (.slice oc cs.length cc) vb vr ol oR' cR' (needS cs.length (S, R) cs[p].n).1 (needS cs.length (S, R) cs[p].n).2) hS⟩)
     | (have hx : cs[p].kind = 4 := by omega
        have hkn : cs[p].n.toNat = k := by omega
        rw [hlg, if_neg (by omega), if_pos hx, hkn]
        exact ⟨rfl, oR', cR', SS.drop (LkS b (.slice oc cs.length cc) vb vr ol oR' cR' ((upI p k).foldl (needS cs.length) (S, R)).1 ((upI p k).foldl (needS cs.length) (S, R)).2) hS⟩)
     | (have hS2 : SS G0 w0 G (LkS b (.slice oc cs.length cc) vb vr ol oR cR S R ++ .blk b6 49 [.int .i64 cs[p].kind, .string cs[p].name, .int .i64 cs[p].n] :: M) w := hS
        rw [hlg, if_neg (by omega), if_neg (by omega)]
        exact ⟨rfl, oR, cR, SS.drop (LkS b (.slice oc cs.length cc) vb vr ol oR cR S R) hS2⟩)
   ·
    try simp only [dqT, dqF, dq1, dq2, dq3, dq4, dq5] at h25
    refine cw_skip (pq_in_normal ?_)
    refine end0 rfl ?_
    first
    | (exfalso; omega)
    | (have hx : cs[p].kind = 1 ∨ cs[p].kind = 3 := by omega
       rw [hlg, if_pos hx]
       exact ⟨rfl, oR', cR', SS.drop (LkS b (.slice oc cs.length cc) vb vr ol oR' cR' (needS cs.length (S, R) cs[p].n).1 (needS cs.length (S, R) cs[p].n).2) hS⟩)
    | (have hx : cs[p].kind = 4 := by omega
       have hkn : cs[p].n.toNat = k := by omega
       rw [hlg, if_neg (by omega), if_pos hx, hkn]
       exact ⟨rfl, oR', cR', SS.drop (LkS b (.slice oc cs.length cc) vb vr ol oR' cR' ((upI p k).foldl (needS cs.length) (S, R)).1 ((upI p k).foldl (needS cs.length) (S, R)).2) hS⟩)
    | (have hS2 : SS G0 w0 G (LkS b (.slice oc cs.length cc) vb vr ol oR cR S R ++ .blk b6 49 [.int .i64 cs[p].kind, .string cs[p].name, .int .i64 cs[p].n] :: M) w := hS
       rw [hlg, if_neg (by omega), if_neg (by omega)]
       exact ⟨rfl, oR, cR, SS.drop (LkS b (.slice oc cs.length cc) vb vr ol oR cR S R) hS2⟩)
set_option maxRecDepth 100000 in
set_option maxHeartbeats 1000000 in

theorem gc_Live_c (G : GH) (w0 : World) (hG : Holds G w0) (hv : Value) (cs : List Cell) (tr : List Int) (room : Int) (hh : EHeap G hv cs tr room) (u : Value) (roots : List Int) (h3 : RSl 1 EInt G u roots) (hs : ShOk cs) (hn : cs.length ≤ 1000000) (hr : roots.length ≤ 1000000) :
   Calls Try.prog 14 #[hv, u] w0 (Rt noG w0 (fun G v => RSl 1 EBool G v (liveB cs roots))) := by
 have hh0 := hh
 obtain ⟨oc, cc, ot, ct, rfl, h1, h2⟩ := hh
 have hle := h1.le
 have hle2 := h2.le
 obtain ⟨oa, ca, rfl, hla, hma⟩ := h3.elim
 refine enter Try.func14 rfl (N := 67) rfl (Nat.le_of_ble_eq_true rfl) ?_
 have hS := SS.init hG
 refine cw_seq (cw_region ?_)
 refine ol_step rfl (op_box hS rfl rfl) ?_
 clear hS
 rintro _ w ⟨b2, rfl, hS⟩
 refine ol_pure rfl (op_assign rfl) (ol_nil (pq_then (cw_seq ?_)))
 refine al_start' hS (hS.take 1) (by kernel_rfl) rfl (fun w hS hT => ?_)
 refine al_load (i := 0) rfl (by kernel_rfl) (by kernel_rfl) (by kernel_rfl) rfl (fun _ _ _ h => h) (by exact op_loadN agg_28 rfl (by rfl) (fun w hw k u hk => (hw.bcell (i := 0) rfl).trans hk)) rfl hT (al_take (i := 1) rfl (by kernel_rfl) (by kernel_rfl) (by kernel_rfl) rfl (fun _ _ _ h => h) (op_fieldAddr fld_28_0 rfl) rfl (al_load (i := 2) rfl (by kernel_rfl) (by kernel_rfl) (by kernel_rfl) rfl (fun _ _ _ h => h) (by exact op_load1 one_25 rfl (fun w hw => (hw.bcell (i := 0) rfl).trans rfl)) rfl hT (al_take (i := 3) rfl (by kernel_rfl) (by kernel_rfl) (by kernel_rfl) rfl (fun _ _ _ h => h) (op_len sl_25 rfl rfl) rfl ?_)))
 refine al_step (i := 4) rfl (by kernel_rfl) rfl (op_makeSlice (n := cs.length) hS sl_34 el_4 rfl rfl rfl (by omega) (by unfold maxLen; omega)) ?_
 clear hS
 rintro _ w ⟨live, rfl, hS⟩
 have hT := hT.back hS (by first | exact Le.refl _ | assumption) (fun x hx => by try simp only [bkA, bkB, bkC, bkD, bkE] at hx; (rcases hx with rfl) <;> simp)
 refine ⟨fun _ _ => hT, ?_⟩
 refine al_take (i := 5) rfl (by kernel_rfl) (by kernel_rfl) (by kernel_rfl) rfl (fun _ _ _ h => h) (op_build (is := [0, 1]) (xs := [.tmp 9, .tmp 13]) (v := .agg #[.slice oc cs.length cc, .slice ot tr.length ct, .int .i64 room, .slice live cs.length cs.length, .slice none 0 0]) rfl rfl (fun w => by kernel_rfl)) rfl ?_
 refine al_step (i := 6) rfl (by kernel_rfl) rfl (op_box hS rfl rfl) ?_
 clear hS
 rintro _ w ⟨x, rfl, hS⟩
 have hT := hT.back hS (by first | exact Le.refl _ | assumption) (fun x hx => by try simp only [bkA, bkB, bkC, bkD, bkE] at hx; (rcases hx with rfl) <;> simp)
 refine ⟨fun _ _ => hT, ?_⟩
 refine al_take (i := 7) rfl (by kernel_rfl) (by kernel_rfl) (by kernel_rfl) rfl (fun _ _ _ h => h) (op_assign rfl) rfl (al_done (by kernel_rfl) (pq_then (cw_seq (cw_seq ?_))))
 replace hS := SS.ins [_, _] hS 3 1
 simp only [List.cons_append, List.nil_append] at hS
 have hS2 : SS G w0 G (LkS x (.slice oc cs.length cc) (.slice ot tr.length ct) (.int .i64 room) live none 0 (List.replicate cs.length false) [] ++ [.blk b2 28 [.slice oc cs.length cc, .slice ot tr.length ct, .int .i64 room]]) w := by
   unfold LkS
   simpa using hS
 refine cw_region (ol_pure rfl (op_move rfl) (ol_pure rfl (op_len sl_26 rfl rfl) (ol_pure rfl (op_move rfl) (ol_nil (pq_then (cw_block ?_))))))
 refine cw_loop (fun e w n => ∃ (k : Nat) (oR : Option Addr) (cR : Nat), e = [(5, .pointer (some ⟨x, 0, none⟩)), (16, .slice oa roots.length ca), (17, .int .i64 (roots.length : Nat)), (18, .int .i64 (k : Nat))] ∧ k ≤ roots.length ∧ n = roots.length - k ∧ SS G w0 G (LkS x (.slice oc cs.length cc) (.slice ot tr.length ct) (.int .i64 room) live oR cR ((roots.take k).foldl (needS cs.length) ((List.replicate cs.length false), [])).1 ((roots.take k).foldl (needS cs.length) ((List.replicate cs.length false), [])).2 ++ [.blk b2 28 [.slice oc cs.length cc, .slice ot tr.length ct, .int .i64 room]]) w) _ _ (by exact ⟨0, none, 0, rfl, Nat.zero_le _, rfl, hS2⟩) ((Sub.cons rfl (Sub.cons rfl (Sub.cons rfl (Sub.cons rfl Sub.nil))))) ?_
 clear hS
 rintro e w n ⟨k, oR, cR, rfl, hk, rfl, hS⟩
 refine cw_seq (cw_region (ol_pure rfl (op_lss rfl rfl) (ol_nil (pq_then (cw_seq ?_)))))
 refine cw_cond rfl (fun h19 => ?_) (fun h19 => ?_)
 ·
  try simp only [dqT, dqF, dq1, dq2, dq3, dq4, dq5] at h19
  have hlt : k < roots.length := by omega
  obtain ⟨hoa, hc, hb⟩ := h3.int hlt
  have hfs := foldl_succ (needS cs.length) ((List.replicate cs.length false), ([] : List Int)) hlt
  have hfl := needS_flen cs.length (roots.take k) ((List.replicate cs.length false), ([] : List Int))
  have hf1 := (needS_fl1 cs.length (roots.take k) ((List.replicate cs.length false), ([] : List Int))).trans List.length_replicate
  simp only [List.length_take, List.length_nil] at hfl
  refine cw_skip (pq_then (cw_seq (cw_block (cw_seq (cw_region (ol_pure rfl (op_indexN sl_26 rfl rfl (by omega) hoa) (ol_load rfl (op_load1 one_3 rfl (fun w hw => hw.gcell hc)) hS ?_)))))))
  refine ol_pure rfl (op_assign rfl) (ol_nil (pq_then (cw_region (ol_pure rfl (op_move rfl) (ol_pure rfl (op_move rfl) ?_)))))
  refine ol_step rfl (op_callu cf_33 rfl (gc_look_need_c hS roots[k] (by omega))) ?_
  clear hS
  rintro _ w ⟨rfl, oR', cR', hS⟩
  rw [hf1, ← hfs] at hS
  refine ol_nil (pq_in_normal (pq_then (cw_region (ol_pure rfl (op_add rfl rfl (by omega) (by omega)) (ol_pure rfl (op_move rfl) (ol_nil ?_))))))
  refine pq_loop _ _ (by exact ⟨k + 1, oR', cR', rfl, by omega, rfl, hS⟩) ((Sub.cons rfl (Sub.cons rfl (Sub.cons rfl (Sub.cons rfl Sub.nil))))) (by omega)
 ·
  try simp only [dqT, dqF, dq1, dq2, dq3, dq4, dq5] at h19
  have hkr : k = roots.length := by omega
  rw [hkr, List.take_length] at hS
  obtain ⟨hW1, hW2, hW3, hW4⟩ := foldl_need roots (List.replicate cs.length false) [] (Wk.start cs roots) (fun a ha h0 hl => Der.mk (r := ⟨a, [], []⟩) (List.mem_append.2 (.inr (rootR_mem ha h0 hl))) (by simp))
  generalize (roots.foldl (needS cs.length) ((List.replicate cs.length false), [])) = st at hS hW1 hW2 hW3 hW4
  obtain ⟨S, R⟩ := st
  simp only [List.length_nil, Nat.add_zero] at hS hW1 hW2 hW3 hW4
  have hc0 : cntB (List.replicate cs.length false) = 0 := by simp [cntB]
  refine cw_exit (pq_exit (pq_exit (pq_in_exit (pq_then (cw_seq (cw_block ?_))))))
  refine cw_loop (fun e w n => ∃ (S : List Bool) (R : List Int) (oR : Option Addr) (cR : Nat), e = [(5, .pointer (some ⟨x, 0, none⟩))] ∧ Wk cs roots S R [] ∧ (∀ r ∈ roots, 0 ≤ r → r < cs.length → atB S r = true) ∧ R.length ≤ 2 * cntB S ∧ n = 2 * (cs.length - cntB S) + R.length ∧ SS G w0 G (LkS x (.slice oc cs.length cc) (.slice ot tr.length ct) (.int .i64 room) live oR cR S R ++ [.blk b2 28 [.slice oc cs.length cc, .slice ot tr.length ct, .int .i64 room]]) w) _ _ (by exact ⟨S, R, oR, cR, rfl, hW1, hW2, by omega, rfl, hS⟩) ((Sub.cons rfl Sub.nil)) ?_
  clear hS
  rintro e w n ⟨S, R, oR, cR, rfl, hW, hrS, hRl, rfl, hS⟩
  unfold LkS at hS
  simp only [List.cons_append, List.nil_append] at hS
  refine cw_seq (cw_seq (cw_region (ol_pure rfl (op_move rfl) (ol_pure rfl (op_nilCheck rfl) (ol_pure rfl (op_fieldAddr fld_72_2 rfl) (ol_load rfl (op_load1 one_26 rfl (fun w hw => (hw.bcell (i := 0) rfl).trans rfl)) hS (ol_pure rfl (op_len sl_26 rfl rfl) ?_)))))))
  refine ol_pure rfl (op_gtr rfl rfl) (ol_nil (pq_then ?_))
  refine cw_cond rfl (fun h31 => ?_) (fun h31 => ?_)
  ·
   try simp only [dqT, dqF, dq1, dq2, dq3, dq4, dq5] at h31
   obtain ⟨R2, x0, rfl⟩ : ∃ R2 x0, R = R2 ++ [x0] := by
     have hne : R ≠ [] := fun hh => by rw [hh] at h31; simp at h31
     exact ⟨_, _, (List.dropLast_concat_getLast hne).symm⟩
   have hx := hW.todo_ x0 (by simp)
   obtain ⟨q, rfl⟩ := Int.eq_ofNat_of_zero_le hx.1.1
   have hq : q < cs.length := by omega
   have hqc : ((R2 ++ [((q : Nat) : Int)]).map (Value.int .i64))[R2.length * 1]? = some (.int .i64 (q : Nat)) := by simp
   have hoq := (hS.news (j := 2) rfl _ _ hqc).1
   have hcS := cntB_le S
   have hWl := hW.len
   have hlR : (R2 ++ [((q : Nat) : Int)]).length = R2.length + 1 := by simp
   have hWp := hW.pop (p := (q : Int)) (rest := R2) (fun x hx => by simpa using hx) (fun x hx => by simp [hx])
   refine cw_skip (pq_then (cw_block (cw_seq ?_)))
   refine al_start' hS (hS.take 3) (by kernel_rfl) rfl (fun w hS hT => ?_)
   refine al_take (i := 0) rfl (by kernel_rfl) (by kernel_rfl) (by kernel_rfl) rfl (fun _ _ _ h => h) (op_move rfl) rfl (al_take (i := 1) rfl (by kernel_rfl) (by kernel_rfl) (by kernel_rfl) rfl (fun _ _ _ h => h) (op_nilCheck rfl) rfl (al_take (i := 2) rfl (by kernel_rfl) (by kernel_rfl) (by kernel_rfl) rfl (fun _ _ _ h => h) (op_fieldAddr fld_72_2 rfl) rfl (al_load (i := 3) rfl (by kernel_rfl) (by kernel_rfl) (by kernel_rfl) rfl (fun _ _ _ h => h) (by exact op_load1 one_26 rfl (fun w hw => (hw.bcell (i := 0) rfl).trans rfl)) rfl hT (al_take (i := 4) rfl (by kernel_rfl) (by kernel_rfl) (by kernel_rfl) rfl (fun _ _ _ h => h) (op_move rfl) rfl (al_take (i := 5) rfl (by kernel_rfl) (by kernel_rfl) (by kernel_rfl) rfl (fun _ _ _ h => h) (op_nilCheck rfl) rfl (al_take (i := 6) rfl (by kernel_rfl) (by kernel_rfl) (by kernel_rfl) rfl (fun _ _ _ h => h) (op_fieldAddr fld_72_2 rfl) rfl (al_load (i := 7) rfl (by kernel_rfl) (by kernel_rfl) (by kernel_rfl) rfl (fun _ _ _ h => h) (by exact op_load1 one_26 rfl (fun w hw => (hw.bcell (i := 0) rfl).trans rfl)) rfl hT ?_)))))))
   refine al_take (i := 8) rfl (by kernel_rfl) (by kernel_rfl) (by kernel_rfl) rfl (fun _ _ _ h => h) (op_len sl_26 rfl rfl) rfl (al_take (i := 9) rfl (by kernel_rfl) (by kernel_rfl) (by kernel_rfl) rfl (fun _ _ _ h => h) (op_val (v' := .int .i64 (R2.length : Nat)) (op_sub rfl rfl (by omega) (by omega)) (by rw [hlR]; exact congrArg (Value.int .i64) (by omega))) rfl (al_take (i := 10) rfl (by kernel_rfl) (by kernel_rfl) (by kernel_rfl) rfl (fun _ _ _ h => h) (op_indexN sl_26 rfl rfl (by omega) hoq) rfl (al_load (i := 11) rfl (by kernel_rfl) (by kernel_rfl) (by kernel_rfl) rfl (fun _ _ _ h => h) (by exact op_load1 one_3 rfl (fun w hw => hw.rcell (i := 2) rfl hqc)) rfl hT (al_take (i := 12) rfl (by kernel_rfl) (by kernel_rfl) (by kernel_rfl) rfl (fun _ _ _ h => h) (op_assign rfl) rfl (al_done (by kernel_rfl) (pq_then (cw_seq ?_)))))))
   refine al_start' hS (hS.take 1) (by kernel_rfl) rfl (fun w hS hT => ?_)
   refine al_take (i := 0) rfl (by kernel_rfl) (by kernel_rfl) (by kernel_rfl) rfl (fun _ _ _ h => h) (op_move rfl) rfl (al_take (i := 1) rfl (by kernel_rfl) (by kernel_rfl) (by kernel_rfl) rfl (fun _ _ _ h => h) (op_move rfl) rfl (al_take (i := 2) rfl (by kernel_rfl) (by kernel_rfl) (by kernel_rfl) rfl (fun _ _ _ h => h) (op_nilCheck rfl) rfl (al_take (i := 3) rfl (by kernel_rfl) (by kernel_rfl) (by kernel_rfl) rfl (fun _ _ _ h => h) (op_fieldAddr fld_72_2 rfl) rfl (al_load (i := 4) rfl (by kernel_rfl) (by kernel_rfl) (by kernel_rfl) rfl (fun _ _ _ h => h) (by exact op_load1 one_26 rfl (fun w hw => (hw.bcell (i := 0) rfl).trans rfl)) rfl hT (al_take (i := 5) rfl (by kernel_rfl) (by kernel_rfl) (by kernel_rfl) rfl (fun _ _ _ h => h) (op_move rfl) rfl (al_take (i := 6) rfl (by kernel_rfl) (by kernel_rfl) (by kernel_rfl) rfl (fun _ _ _ h => h) (op_nilCheck rfl) rfl (al_take (i := 7) rfl (by kernel_rfl) (by kernel_rfl) (by kernel_rfl) rfl (fun _ _ _ h => h) (op_fieldAddr fld_72_2 rfl) rfl ?_)))))))
   refine al_load (i := 8) rfl (by kernel_rfl) (by kernel_rfl) (by kernel_rfl) rfl (fun _ _ _ h => h) (by exact op_load1 one_26 rfl (fun w hw => (hw.bcell (i := 0) rfl).trans rfl)) rfl hT (al_take (i := 9) rfl (by kernel_rfl) (by kernel_rfl) (by kernel_rfl) rfl (fun _ _ _ h => h) (op_len sl_26 rfl rfl) rfl (al_take (i := 10) rfl (by kernel_rfl) (by kernel_rfl) (by kernel_rfl) rfl (fun _ _ _ h => h) (op_val (v' := .int .i64 (R2.length : Nat)) (op_sub rfl rfl (by omega) (by omega)) (by rw [hlR]; exact congrArg (Value.int .i64) (by omega))) rfl ?_))
   have hcR := (hS.row_len [_, _]).2.1
   refine al_take (i := 11) rfl (by kernel_rfl) (by kernel_rfl) (by kernel_rfl) rfl (fun _ _ _ h => h) (op_val (v' := .slice oR R2.length cR) (op_slice_h (c := cR) (h := R2.length) sl_26 rfl rfl (by omega)) (by show Value.slice (if cR = 0 then oR else oR.map (·.add (0 * 1))) (R2.length - 0) (cR - 0) = .slice oR R2.length cR; split <;> cases oR <;> simp [add_zero''])) rfl (al_take (i := 12) rfl (by kernel_rfl) (by kernel_rfl) (by kernel_rfl) rfl (fun _ _ _ h => h) (op_nilCheck rfl) rfl (al_take (i := 13) rfl (by kernel_rfl) (by kernel_rfl) (by kernel_rfl) rfl (fun _ _ _ h => h) (op_fieldAddr fld_72_2 rfl) rfl ?_))
   refine al_step0 (i := 14) rfl (by kernel_rfl) (op_storeB (j := 0) (k := 4) hS sz_26 rfl rfl rfl rfl (by simp)) ?_
   clear hS
   rintro _ w hS; (try simp only [List.nil_append, List.cons_append, List.set] at hS)
   replace hS := hS.shorten (j := 2) rfl (i := R2.length) (by omega)
   have hS2 : SS G w0 G (LkS x (.slice oc cs.length cc) (.slice ot tr.length ct) (.int .i64 room) live oR cR S R2 ++ [.blk b2 28 [.slice oc cs.length cc, .slice ot tr.length ct, .int .i64 room]]) w := by
     unfold LkS
     simpa using hS
   refine ⟨no_need (by kernel_rfl), ?_⟩
   refine al_done (by kernel_rfl) (pq_then (cw_region (ol_pure rfl (op_move rfl) (ol_pure rfl (op_move rfl) (ol_pure rfl (op_move rfl) (ol_pure rfl (op_makeFunc rfl rfl) ?_))))))
   refine ol_step rfl (op_callu cf_34 rfl (gc_look_leads_c hS2 h1 q hq hs hWl (by omega))) ?_
   clear hS
   rintro _ w ⟨rfl, oR', cR', hS⟩
   obtain ⟨hWa, hmk, hmn, hct⟩ := foldl_need (leadsG cs q) S R2 hWp (fun a ha h0 h1 => hW.der hq hx.2 ha)
   generalize ((leadsG cs q).foldl (needS cs.length) (S, R2)) = st at hS hWa hmk hmn hct
   obtain ⟨S3, R3⟩ := st
   simp only at hS hWa hmk hmn hct
   have hW9 := hWa.next (fun y hy => hmk y (leadsI_G hq hy) (leads_range hs hq hy).1 (leads_range hs hq hy).2)
   have hr9 : ∀ r ∈ roots, 0 ≤ r → r < cs.length → atB S3 r = true := fun r hr h0 hl => by
     obtain ⟨k, rfl⟩ := Int.eq_ofNat_of_zero_le h0
     exact hmn k (hrS _ hr h0 hl)
   have hc3 := cntB_le S3
   have hl3 := hW9.len
   refine ol_nil (pq_in_normal ?_)
   refine pq_loop _ _ (by exact ⟨S3, R3, oR', cR', rfl, hW9, hr9, by omega, rfl, hS⟩) ((Sub.cons rfl Sub.nil)) (by omega)
  ·
   try simp only [dqT, dqF, dq1, dq2, dq3, dq4, dq5] at h31
   refine cw_exit (pq_exit (pq_exit (pq_in_exit (pq_then (cw_seq (cw_region (ol_pure rfl (op_move rfl) ?_)))))))
   refine ol_pure rfl (op_nilCheck rfl) (ol_pure rfl (op_fieldAddr fld_72_1 rfl) (ol_load rfl (op_load1 one_34 rfl (fun w hw => (hw.bcell (i := 0) rfl).trans rfl)) hS (ol_pure rfl (op_assign rfl) (ol_nil (pq_then (cw_ret (ret1 rfl rfl ?_)))))))
   have hR0 : R = [] := List.eq_nil_of_length_eq_zero (by omega)
   subst hR0
   rw [← hW.done hs hrS]
   exact hS.rt_row [_] (by decide) (Rows.boolsG noG S) EBool.mono rfl
end Go.Proofs.Ytnmkffkalnkbbaa.K
