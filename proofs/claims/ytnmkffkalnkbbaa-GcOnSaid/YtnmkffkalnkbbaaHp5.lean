/-
  Heaps: two places that are made alike.
  No condition but the premises that each theorem names.
-/
import Derived.Test.YtnmkffkalnkbbaaHp4
import Derived.Test.YtnmkffkalnkbbaaArr
namespace Go.Proofs.Ytnmkffkalnkbbaa.K
open Go Go.RowKit
set_option linter.unusedVariables false
set_option linter.unusedSimpArgs false

open Pl
def pairV (p : Int × Int) : List Value := [.int .i64 p.1, .int .i64 p.2]
def pairsV (l : List (Int × Int)) : List Value := l.flatMap pairV
theorem pairsV_len (l : List (Int × Int)) : (pairsV l).length = l.length * 2 := by
  induction l with
  | nil => rfl
  | cons c l ih =>
    have : pairsV (c :: l) = pairV c ++ pairsV l := rfl
    rw [this, List.length_append, ih]
    simp [pairV]
    omega
theorem pairsV_app (a b : List (Int × Int)) : pairsV (a ++ b) = pairsV a ++ pairsV b := by simp [pairsV]
def PairBd (p : Int × Int) : Prop := (-9223372036854775808 ≤ p.1 ∧ p.1 ≤ 9223372036854775807) ∧ -9223372036854775808 ≤ p.2 ∧ p.2 ≤ 9223372036854775807
theorem Rows.pairs {G : GH} {l : List (Int × Int)} (h : ∀ c ∈ l, PairBd c) : Rows 2 EPair G (pairsV l) l := by
  induction l with
  | nil => exact Rows.nil _
  | cons c l ih =>
    have h1 := (Rows.nil (sz := 2) (E := EPair) G).snoc (x := c) (cs := pairV c) rfl ⟨rfl, h c (by simp)⟩
    have := h1.app (ih fun x hx => h x (by simp [hx]))
    simpa [pairsV] using this
theorem RSl.pairAt {G : GH} {oa : Option Addr} {n c : Nat} {l : List (Int × Int)} (h : RSl 2 EPair G (.slice oa n c) l) {i : Nat} (hi : i < l.length) :
    oa.isSome = true ∧ ∀ (k : Nat) (u : Value), (pairV l[i])[k]? = some u → gcell G ((elA oa (i * 2)).add k) = some u := by
  obtain ⟨h1, cs, _, ⟨rfl, h3⟩, h5⟩ := h.el hi
  exact ⟨h1, h5⟩
theorem InP.bd {N : Nat} {l : List (Int × Int)} (h : InP N l) (hN : N ≤ 1000000) : ∀ p ∈ l, PairBd p := fun p hp => by
  have := h p hp
  unfold PairBd
  omega
theorem dec_pair (a b c d : Int) : (decide (a = c) && decide (b = d)) = decide ((a, b) = (c, d)) := by
  by_cases h1 : a = c <;> by_cases h2 : b = d <;> simp [h1, h2]
theorem pairsV_at {l : List (Int × Int)} {i : Nat} (h : i < l.length) {r : Nat} (hr : r < 2) : (pairsV l)[i * 2 + r]? = (pairV l[i])[r]? := by
  have h1 : l = l.take i ++ l[i] :: l.drop (i + 1) := by rw [List.getElem_cons_drop, List.take_append_drop]
  have h2 : pairsV l = pairsV (l.take i) ++ (pairV l[i] ++ pairsV (l.drop (i + 1))) := by
    conv => lhs; rw [h1]
    rw [pairsV_app]
    rfl
  have h3 : (pairsV (l.take i)).length = i * 2 := by rw [pairsV_len]; simp; omega
  rw [h2, List.getElem?_append_right (by omega), h3, show i * 2 + r - i * 2 = r from by omega, List.getElem?_append_left (by simpa [pairV] using hr)]
theorem RSl.newsP {G : GH} {w : World} {oa : Option Addr} {n c : Nat} {l : List (Int × Int)} (h : RSl 2 EPair G (.slice oa n c) l) (hw : Holds G w) : ∀ (k : Nat) (u : Value), (pairsV l)[k]? = some u → oa.isSome = true ∧ w.cell? (elA oa k) = some u := fun k u hu => by
  have hk : k < (pairsV l).length := (List.getElem?_eq_some_iff.1 hu).1
  rw [pairsV_len] at hk
  have hi : k / 2 < l.length := by omega
  have hd : k = k / 2 * 2 + k % 2 := by omega
  obtain ⟨h1, h3⟩ := h.pairAt hi
  rw [hd, pairsV_at hi (by omega)] at hu
  have := h3 _ u hu
  rw [elA_add, ← hd] at this
  exact ⟨h1, hw.cell this⟩
theorem ones_p (l : List (Int × Int)) : ∀ u ∈ pairsV l, u.oneCell' = true := fun u hu => by
  obtain ⟨c, _, hc⟩ := List.mem_flatMap.1 hu
  simp only [pairV, List.mem_cons, List.not_mem_nil, or_false] at hc
  rcases hc with rfl | rfl <;> rfl
/-- What making alike hands back. -/
def UniR (cs : List Cell) (tr : List Int) (room : Int) (res : Option (List Cell × List Int)) (G : GH) (v : Value) : Prop := ∃ hv, v = .tuple #[hv, .bool res.isSome] ∧ EHeap G hv (res.getD (cs, tr)).1 (res.getD (cs, tr)).2 room
theorem UniR.mono {cs : List Cell} {tr : List Int} {room : Int} {res : Option (List Cell × List Int)} : ∀ (G1 G2 : GH) (v : Value), Le G1 G2 → UniR cs tr room res G1 v → UniR cs tr room res G2 v := fun _ _ _ hl ⟨hv, h1, h2⟩ => ⟨hv, h1, h2.mono hl⟩
theorem unif_cons (n : Nat) (cs : List Cell) (tr : List Int) (a b : Int) (row seen : List (Int × Int)) : unif (n + 1) cs tr ((a, b) :: row) seen =
    if followC cs a = followC cs b ∨ (followC cs a, followC cs b) ∈ seen then unif n cs tr row seen
    else if kindAt cs (followC cs a) = 1 ∧ kindAt cs (followC cs b) = 1 then unif n (bindC cs (max (followC cs a) (followC cs b)) (min (followC cs a) (followC cs b))) (tr ++ [max (followC cs a) (followC cs b)]) row seen
    else if kindAt cs (followC cs b) = 1 then (if atB (liveB cs [followC cs a]) (followC cs b) = true then none else unif n (bindC cs (followC cs b) (followC cs a)) (tr ++ [followC cs b]) row seen)
    else if kindAt cs (followC cs a) = 1 then (if atB (liveB cs [followC cs b]) (followC cs a) = true then none else unif n (bindC cs (followC cs a) (followC cs b)) (tr ++ [followC cs a]) row seen)
    else if sameC (cellAt cs (followC cs a)) (cellAt cs (followC cs b)) = true then unif n cs tr (moreI cs (followC cs a) (followC cs b) ++ row) (seen ++ [(followC cs a, followC cs b)])
    else none := by rw [unif]
theorem unif_nil (n : Nat) (cs : List Cell) (tr : List Int) (seen : List (Int × Int)) : unif n cs tr [] seen = some (cs, tr) := by cases n <;> rw [unif]
theorem op_maxN {P : Program} {N : Nat} {e : Env} {d : Option Tmp} {ty : TypeId} {pos : String} {after : Array Edge} {g : Option (Nat × Bool)} {x y : Operand} {ts : Array TypeId} {m n : Nat} (hx : ev e x = some (.int .i64 m)) (hy : ev e y = some (.int .i64 n)) : OpP P N e ⟨d, .call ⟨.builtin .max, #[x, y], ts⟩, ty, pos, after, g⟩ (.int .i64 ((max m n : Nat) : Int)) := by
  have h := op_max (P := P) (N := N) (d := d) (ty := ty) (pos := pos) (after := after) (g := g) (ts := ts) hx hy
  have he : (if (n : Int) > (m : Int) then (n : Int) else (m : Int)) = ((max m n : Nat) : Int) := by split <;> omega
  rwa [he] at h
theorem sameC_comm {x y : Cell} (h : sameC x y = true) : x.kind = y.kind ∧ x.n = y.n := by
  simp only [sameC, Bool.and_eq_true, decide_eq_true_eq] at h
  exact ⟨h.1.1, h.2⟩

set_option maxRecDepth 100000 in
set_option maxHeartbeats 400000 in

theorem R08_Has_c (G : GH) (w0 : World) (hG : Holds G w0) (v : Value) (l : List (Int × Int)) (h1 : RSl 2 EPair G v l) (x y : Int) :
   Calls Try.prog 54 #[v, .agg #[.int .i64 x, .int .i64 y]] w0 (Sc w0 (.bool (decide ((x, y) ∈ l)))) := by
 obtain ⟨oa, c, rfl, hlc, hcm⟩ := h1.elim
 have hle := h1.le
 refine enter Try.func54 rfl (N := 18) rfl (Nat.le_of_ble_eq_true rfl) ?_
 have hS := SS.init hG
 refine cw_seq (cw_region ?_)
 refine ol_step rfl (op_box hS rfl rfl) ?_
 clear hS
 rintro _ w ⟨b3, rfl, hS⟩
 refine ol_pure rfl (op_assign rfl) (ol_nil (pq_then (cw_seq (cw_seq (cw_region (ol_pure rfl (op_assign rfl) (ol_nil ?_)))))))
 refine pq_then (cw_block ?_)
 refine cw_loop (fun e w n => ∃ k : Nat, e = [(0, .slice oa l.length c), (3, .pointer (some ⟨b3, 0, none⟩)), (5, .int .i64 (k : Nat))] ∧ k ≤ l.length ∧ n = l.length - k ∧ (x, y) ∉ l.take k ∧ SS G w0 G [.blk b3 86 [.int .i64 x, .int .i64 y]] w) _ _ (by exact ⟨0, rfl, Nat.zero_le _, rfl, by simp, hS⟩) ((Sub.cons rfl (Sub.cons rfl (Sub.cons rfl Sub.nil)))) ?_
 clear hS
 rintro e w n ⟨k, rfl, hk, rfl, hno, hS⟩
 refine cw_seq (cw_seq (cw_region (ol_pure rfl (op_move rfl) (ol_pure rfl (op_move rfl) (ol_pure rfl (op_len sl_87 rfl rfl) (ol_pure rfl (op_lss rfl rfl) (ol_nil ?_)))))))
 refine pq_then ?_
 refine cw_cond rfl (fun h9 => ?_) (fun h9 => ?_)
 ·
  try simp only [dqT, dqF, dq1, dq2, dq3, dq4, dq5] at h9
  have hlt : k < l.length := by omega
  obtain ⟨hoa, hc⟩ := h1.pairAt hlt
  refine cw_skip (pq_then (cw_seq (cw_block (cw_seq ?_))))
  refine al_start' hS (hS.take 1) (by kernel_rfl) rfl (fun w hS hT => ?_)
  refine al_take (i := 0) rfl (by kernel_rfl) (by kernel_rfl) (by kernel_rfl) rfl (fun _ _ _ h => h) (op_move rfl) rfl (al_take (i := 1) rfl (by kernel_rfl) (by kernel_rfl) (by kernel_rfl) rfl (fun _ _ _ h => h) (op_move rfl) rfl (al_take (i := 2) rfl (by kernel_rfl) (by kernel_rfl) (by kernel_rfl) rfl (fun _ _ _ h => h) (op_indexN sl_87 rfl rfl (by omega) hoa) rfl (al_load (i := 3) rfl (by kernel_rfl) (by kernel_rfl) (by kernel_rfl) rfl (fun _ _ _ h => h) (by exact op_loadN agg_86 rfl (by rfl) (fun w hw k u hk => hw.gcell (hc k u hk))) rfl hT (al_load (i := 4) rfl (by kernel_rfl) (by kernel_rfl) (by kernel_rfl) rfl (fun _ _ _ h => h) (by exact op_loadN agg_86 rfl (by rfl) (fun w hw k u hk => (hw.bcell (i := 0) rfl).trans hk)) rfl hT (al_take (i := 5) rfl (by kernel_rfl) (by kernel_rfl) (by kernel_rfl) rfl (fun _ _ _ h => h) (op_val (op_eqlP pair_86 rfl rfl) (congrArg Value.bool (dec_pair _ _ _ _))) rfl (al_done (by kernel_rfl) (pq_then ?_)))))))
  refine cw_cond rfl (fun h17 => ?_) (fun h17 => ?_)
  ·
   try simp only [dqT, dqF, dq1, dq2, dq3, dq4, dq5] at h17
   refine cw_seq (cw_region (ol_pure rfl (op_assign rfl) (ol_nil (pq_then (cw_ret (pq_in_ret (pq_ret ?_)))))))
   refine pq_ret (pq_in_ret (pq_ret (ret1 rfl rfl ?_)))
   exact hS.sc_b (by symm; rw [decide_eq_true_eq, ← h17]; exact List.getElem_mem hlt)
  ·
   try simp only [dqT, dqF, dq1, dq2, dq3, dq4, dq5] at h17
   refine cw_skip (pq_in_normal (pq_then (cw_region (ol_pure rfl (op_move rfl) (ol_pure rfl (op_add rfl rfl (by omega) (by omega)) (ol_pure rfl (op_assign rfl) (ol_nil ?_)))))))
   refine pq_loop _ _ (by exact ⟨k + 1, rfl, by omega, rfl, by rw [List.take_succ_eq_append_getElem hlt]; simp only [List.mem_append, List.mem_singleton]; rintro (hh | hh); exact hno hh; exact h17 hh.symm, hS⟩) ((Sub.cons rfl (Sub.cons rfl (Sub.cons rfl Sub.nil)))) (by omega)
 ·
  try simp only [dqT, dqF, dq1, dq2, dq3, dq4, dq5] at h9
  refine cw_exit (pq_exit (pq_exit (pq_in_exit (pq_then (cw_seq (cw_region (ol_pure rfl (op_assign rfl) ?_)))))))
  refine ol_nil (pq_then (cw_ret (ret1 rfl rfl ?_)))
  exact hS.sc_b (by symm; rw [decide_eq_false_iff_not]; rwa [List.take_of_length_le (by omega)] at hno)
set_option maxRecDepth 100000 in
set_option maxHeartbeats 1000000 in

theorem R08_pairs_c {G0 G : GH} {w0 w : World} {M : List Ent} (hS : SS G0 w0 G M w) (hv : Value) (cs : List Cell) (tr : List Int) (room : Int) (hh : EHeap G hv cs tr room) (p q : Nat) (hp : p < cs.length) (hq : q < cs.length) (hs : ShOk cs) (hn : cs.length ≤ 1000000) :
   Calls Try.prog 56 #[hv, .int .i64 (p : Nat), .int .i64 (q : Nat)] w (fun en w' => ∃ v, en = .returned v ∧ ∃ oP cP L, L = (if sameC cs[p] cs[q] = true then moreI cs p q else []) ∧ v = .tuple #[.slice oP L.length cP, .bool (sameC cs[p] cs[q])] ∧ SS G0 w0 G (.row oP L.length cP 86 2 (pairsV L) :: M) w') := by
 have hh0 := hh
 obtain ⟨oc, cc, ot, ct, rfl, h1, h2⟩ := hh
 have hle := h1.le
 have hle2 := h2.le
 obtain ⟨hoc, hbp, hcp⟩ := h1.cellAt hp
 obtain ⟨hoc2, hbq, hcq⟩ := h1.cellAt hq
 have hso := hs p hp
 have hso2 := hs q hq
 unfold SlotOk at hso hso2
 have hkp := kindAt_at hp
 have hap := cellAt_at hp
 refine enter Try.func56 rfl (N := 48) rfl (Nat.le_of_ble_eq_true rfl) ?_
 refine cw_seq (cw_region ?_)
 refine ol_step rfl (op_box hS rfl rfl) ?_
 clear hS
 rintro _ w ⟨b3, rfl, hS⟩
 refine ol_pure rfl (op_assign rfl) (ol_pure rfl (op_assign rfl) (ol_nil (pq_then (cw_seq ?_))))
 refine al_start' hS (hS.take 1) (by kernel_rfl) rfl (fun w hS hT => ?_)
 refine al_take (i := 0) rfl (by kernel_rfl) (by kernel_rfl) (by kernel_rfl) rfl (fun _ _ _ h => h) (op_fieldAddr fld_28_0 rfl) rfl (al_load (i := 1) rfl (by kernel_rfl) (by kernel_rfl) (by kernel_rfl) rfl (fun _ _ _ h => h) (by exact op_load1 one_25 rfl (fun w hw => (hw.bcell (i := 0) rfl).trans rfl)) rfl hT (al_take (i := 2) rfl (by kernel_rfl) (by kernel_rfl) (by kernel_rfl) rfl (fun _ _ _ h => h) (op_move rfl) rfl (al_take (i := 3) rfl (by kernel_rfl) (by kernel_rfl) (by kernel_rfl) rfl (fun _ _ _ h => h) (op_indexN sl_25 rfl rfl (by omega) hoc) rfl (al_load (i := 4) rfl (by kernel_rfl) (by kernel_rfl) (by kernel_rfl) rfl (fun _ _ _ h => h) (by exact op_loadN agg_49 rfl (by rfl) (fun w hw k u hk => hw.gcell (hcp k u hk))) rfl hT (al_take (i := 5) rfl (by kernel_rfl) (by kernel_rfl) (by kernel_rfl) rfl (fun _ _ _ h => h) (op_fieldAddr fld_28_0 rfl) rfl (al_load (i := 6) rfl (by kernel_rfl) (by kernel_rfl) (by kernel_rfl) rfl (fun _ _ _ h => h) (by exact op_load1 one_25 rfl (fun w hw => (hw.bcell (i := 0) rfl).trans rfl)) rfl hT (al_take (i := 7) rfl (by kernel_rfl) (by kernel_rfl) (by kernel_rfl) rfl (fun _ _ _ h => h) (op_move rfl) rfl ?_)))))))
 refine al_take (i := 8) rfl (by kernel_rfl) (by kernel_rfl) (by kernel_rfl) rfl (fun _ _ _ h => h) (op_indexN sl_25 rfl rfl (by omega) hoc2) rfl (al_load (i := 9) rfl (by kernel_rfl) (by kernel_rfl) (by kernel_rfl) rfl (fun _ _ _ h => h) (by exact op_loadN agg_49 rfl (by rfl) (fun w hw k u hk => hw.gcell (hcq k u hk))) rfl hT ?_)
 refine al_meet (fuel2 := 2) (ds2 := [11, 10, 9, 8, 7, 6, 5, 4, 3, 2, 1, 0]) (fun e w => ∃ (bx by_ : Nat), e = [(1, .int .i64 (p : Nat)), (2, .int .i64 (q : Nat)), (8, .pointer (some ⟨bx, 0, none⟩)), (9, .pointer (some ⟨by_, 0, none⟩)), (16, .agg #[.int .i64 cs[p].kind, .string cs[p].name, .int .i64 cs[p].n]), (21, .agg #[.int .i64 cs[q].kind, .string cs[q].name, .int .i64 cs[q].n])] ∧ SS G0 w0 G (.blk bx 49 [.int .i64 0, .string ByteArray.empty, .int .i64 0] :: .blk by_ 49 [.int .i64 0, .string ByteArray.empty, .int .i64 0] :: .blk b3 28 [.slice oc cs.length cc, .slice ot tr.length ct, .int .i64 room] :: M) w) (fun K1 => ?_) ?_
 ·
  refine al_two (i := 10) (j := 11) (by kernel_rfl) (fun a ha => ?_) (fun a ha => ?_)
  ·
   refine wpOp_of_opk (i := 10) rfl ha (op_alloc hS el_49 rfl) ?_
   clear hS
   rintro _ w ⟨bx, rfl, hS⟩
   have hT := hT.back hS (by first | exact Le.refl _ | assumption) (fun x hx => by try simp only [bkA, bkB, bkC, bkD, bkE] at hx; (rcases hx with rfl) <;> simp)
   refine ⟨fun _ _ => hT, ?_⟩
   refine al_at ?_ (ha.put (blt_lt rfl) _)
   refine al_step (i := 11) rfl (by kernel_rfl) rfl (op_alloc hS el_49 rfl) ?_
   clear hS
   rintro _ w ⟨by_, rfl, hS⟩
   have hT := hT.back hS (by first | exact Le.refl _ | assumption) (fun x hx => by try simp only [bkA, bkB, bkC, bkD, bkE] at hx; (rcases hx with rfl) <;> simp)
   refine ⟨fun _ _ => hT, ?_⟩
   exact K1 _ _ _ _ (by kernel_rfl) (by exact ⟨bx, by_, rfl, by first | exact hS | exact SS.swap [] hS⟩) ((Sub.cons rfl (Sub.cons rfl (Sub.cons rfl (Sub.cons rfl (Sub.cons rfl (Sub.cons rfl Sub.nil)))))))
  ·
   refine wpOp_of_opk (i := 11) rfl ha (op_alloc hS el_49 rfl) ?_
   clear hS
   rintro _ w ⟨by_, rfl, hS⟩
   have hT := hT.back hS (by first | exact Le.refl _ | assumption) (fun x hx => by try simp only [bkA, bkB, bkC, bkD, bkE] at hx; (rcases hx with rfl) <;> simp)
   refine ⟨fun _ _ => hT, ?_⟩
   refine al_at ?_ (ha.put (blt_lt rfl) _)
   refine al_step (i := 10) rfl (by kernel_rfl) rfl (op_alloc hS el_49 rfl) ?_
   clear hS
   rintro _ w ⟨bx, rfl, hS⟩
   have hT := hT.back hS (by first | exact Le.refl _ | assumption) (fun x hx => by try simp only [bkA, bkB, bkC, bkD, bkE] at hx; (rcases hx with rfl) <;> simp)
   refine ⟨fun _ _ => hT, ?_⟩
   exact K1 _ _ _ _ (by kernel_rfl) (by exact ⟨bx, by_, rfl, by first | exact hS | exact SS.swap [] hS⟩) ((Sub.cons rfl (Sub.cons rfl (Sub.cons rfl (Sub.cons rfl (Sub.cons rfl (Sub.cons rfl Sub.nil)))))))
 ·
  have hTo := hT
  clear hS hT
  rintro e w ⟨bx, by_, rfl, hS⟩
  have hT := hTo.back hS (by first | exact Le.refl _ | assumption) (fun x hx => by try simp only [bkA, bkB, bkC, bkD, bkE] at hx; (rcases hx with rfl) <;> simp)
  clear hTo
  refine al_step0 (i := 12) rfl (by kernel_rfl) (op_storeN (j := 0) hS sz_49 rfl rfl rfl rfl rfl (by simp [Value.oneCell'])) ?_
  clear hS
  rintro _ w hS; (try simp only [List.nil_append, List.cons_append, List.set] at hS)
  have hT := hT.back hS (by first | exact Le.refl _ | assumption) (fun x hx => by try simp only [bkA, bkB, bkC, bkD, bkE] at hx; (rcases hx with rfl) <;> simp)
  refine ⟨fun _ _ => hT, ?_⟩
  refine al_step0 (i := 13) rfl (by kernel_rfl) (op_storeN (j := 1) hS sz_49 rfl rfl rfl rfl rfl (by simp [Value.oneCell'])) ?_
  clear hS
  rintro _ w hS; (try simp only [List.nil_append, List.cons_append, List.set] at hS)
  refine ⟨no_need (by kernel_rfl), ?_⟩
  refine al_done (by kernel_rfl) (pq_then (cw_seq (cw_seq (cw_region (ol_load rfl (op_loadN agg_49 rfl (by rfl) (fun w hw k u hk => (hw.bcell (i := 0) rfl).trans hk)) hS (ol_load rfl (op_loadN agg_49 rfl (by rfl) (fun w hw k u hk => (hw.bcell (i := 1) rfl).trans hk)) hS (ol_pure rfl (op_neqC cell_49 rfl rfl) ?_)))))))
  refine ol_nil (pq_then ?_)
  refine cw_cond rfl (fun h24 => ?_) (fun h24 => ?_)
  ·
   try simp only [dqT, dqF, dq1, dq2, dq3, dq4, dq5] at h24
   have hsm : sameC cs[p] cs[q] = false := h24
   refine cw_seq (cw_region (ol_pure rfl (op_assign rfl) (ol_pure rfl (op_assign rfl) (ol_nil (pq_then (cw_ret (pq_ret ?_)))))))
   refine ret2 rfl rfl rfl ?_
   rw [hsm]
   exact ⟨_, rfl, none, 0, [], rfl, rfl, (SS.drop [] (SS.drop [] (SS.drop [] hS))).nil 86 2⟩
  ·
   try simp only [dqT, dqF, dq1, dq2, dq3, dq4, dq5] at h24
   have hsm : sameC cs[p] cs[q] = true := h24
   have hsk := sameC_comm hsm
   refine cw_skip (pq_then (cw_seq (cw_region ?_)))
   refine ol_step rfl (op_buildSlice (el := 86) (is := []) (xs := []) (sz := 2) (cs := []) hS rfl rfl (fun w => by kernel_rfl) rfl (by decide)) ?_
   clear hS
   rintro _ w ⟨o10, rfl, hS⟩
   refine ol_pure rfl (op_assign rfl) (ol_nil (pq_then (cw_seq (cw_seq (cw_region (ol_pure rfl (op_assign rfl) (ol_nil ?_)))))))
   refine pq_then (cw_block ?_)
   refine cw_loop (fun e w n => ∃ (m : Nat) (oP : Option Addr) (cP : Nat), e = [(1, .int .i64 (p : Nat)), (2, .int .i64 (q : Nat)), (8, .pointer (some ⟨bx, 0, none⟩)), (10, .slice oP m cP), (11, .int .i64 (m + 1))] ∧ (m : Int) ≤ (if cs[p].kind = 4 then cs[p].n else 0) ∧ n = (if cs[p].kind = 4 then cs[p].n.toNat - m else 0) ∧ SS G0 w0 G (.row oP m cP 86 2 (pairsV (pairsI p q m)) :: .blk bx 49 [.int .i64 cs[p].kind, .string cs[p].name, .int .i64 cs[p].n] :: .blk by_ 49 [.int .i64 cs[q].kind, .string cs[q].name, .int .i64 cs[q].n] :: .blk b3 28 [.slice oc cs.length cc, .slice ot tr.length ct, .int .i64 room] :: M) w) _ _ (by exact ⟨0, o10, _, rfl, by split <;> omega, rfl, hS⟩) ((Sub.cons rfl (Sub.cons rfl (Sub.cons rfl (Sub.cons rfl (Sub.cons rfl Sub.nil)))))) ?_
   clear hS
   rintro e w n ⟨m, oP, cP, rfl, hm, rfl, hS⟩
   refine cw_seq (cw_seq (cw_region (ol_pure rfl (op_fieldAddr fld_49_0 rfl) (ol_load rfl (op_load1 one_3 rfl (fun w hw => (hw.bcell (i := 1) rfl).trans rfl)) hS (ol_pure rfl (op_eql rfl rfl) (ol_pure rfl (op_move rfl) ?_))))))
   refine ol_split (fun h29 => ?_) (fun h29 => ?_)
   ·
    try simp only [dqT, dqF, dq1, dq2, dq3, dq4, dq5] at h29
    refine ol_guard_pure rfl rfl rfl (op_move rfl) (ol_guard_pure rfl rfl rfl (op_fieldAddr fld_49_2 rfl) (ol_guard_load rfl rfl rfl (op_load1 one_3 rfl (fun w hw => (hw.bcell (i := 1) rfl).trans rfl)) hS (ol_guard_pure rfl rfl rfl (op_leq rfl rfl) (ol_pure rfl (op_pick_t rfl rfl) (ol_nil (pq_then ?_))))))
    refine cw_cond rfl (fun h34 => ?_) (fun h34 => ?_)
    ·
     try simp only [dqT, dqF, dq1, dq2, dq3, dq4, dq5] at h34
     refine cw_skip (pq_then (cw_seq (cw_block (cw_region (ol_pure rfl (op_move rfl) (ol_pure rfl (op_move rfl) (ol_pure rfl (op_move rfl) ?_)))))))
     refine ol_pure rfl (op_add rfl rfl (by omega) (by omega)) (ol_pure rfl (op_move rfl) (ol_pure rfl (op_move rfl) (ol_pure rfl (op_add rfl rfl (by omega) (by omega)) (ol_pure rfl (op_build (is := [0, 1]) (xs := [.tmp 40, .tmp 43]) (v := .agg #[.int .i64 (p + (m + 1)), .int .i64 (q + (m + 1))]) rfl rfl (fun w => by kernel_rfl)) ?_))))
     refine ol_step rfl (op_buildSlice (el := 86) (is := [0]) (xs := [.tmp 44]) (sz := 2) (cs := [.int .i64 (p + (m + 1)), .int .i64 (q + (m + 1))]) hS rfl rfl (fun w => by kernel_rfl) rfl (by decide)) ?_
     clear hS
     rintro _ w ⟨s45, rfl, hS⟩
     refine ol_step rfl (op_append (j := 1) hS sl_87 el_86 rfl rfl rfl rfl rfl rfl (by decide) (hS.news (j := 0) rfl) (by simp [Value.oneCell']) (by omega) (by unfold maxLen; omega)) ?_
     clear hS
     rintro _ w ⟨oq, c_oq, rfl, hS⟩; (try simp only [List.nil_append, List.cons_append, List.set] at hS); replace hS := SS.drop [] hS; (try simp only [List.nil_append, List.cons_append] at hS)
     refine ol_pure rfl (op_assign rfl) (ol_nil (pq_in_normal (pq_then (cw_region (ol_pure rfl (op_move rfl) (ol_pure rfl (op_add rfl rfl (by omega) (by omega)) (ol_pure rfl (op_assign rfl) ?_)))))))
     refine ol_nil ?_
     refine pq_loop _ _ (by exact ⟨m + 1, oq, c_oq, rfl, by rw [if_pos h29]; omega, rfl, by rw [pairsI_succ, pairsV_app, show (p : Int) + 1 + m = p + (m + 1) from by omega, show (q : Int) + 1 + m = q + (m + 1) from by omega]; simpa [pairsV, pairV] using hS⟩) ((Sub.cons rfl (Sub.cons rfl (Sub.cons rfl (Sub.cons rfl (Sub.cons rfl Sub.nil)))))) (by rw [if_pos h29, if_pos h29]; omega)
    ·
     try simp only [dqT, dqF, dq1, dq2, dq3, dq4, dq5] at h34
     refine cw_exit (pq_exit (pq_exit (pq_in_exit (pq_then (cw_seq (cw_region (ol_pure rfl (op_move rfl) ?_)))))))
     refine ol_pure rfl (op_assign rfl) (ol_pure rfl (op_assign rfl) (ol_nil (pq_then (cw_ret ?_))))
     refine ret2 rfl rfl rfl ?_
     have hmore : moreI cs p q = pairsI p q m := by
       unfold moreI
       rw [hkp, hap]
       by_cases h4 : cs[p].kind = 4
       · rw [if_pos h4] at hm ⊢
         rw [show cs[p].n.toNat = m from by omega]
       · rw [if_neg h4] at hm ⊢
         rw [show m = 0 from by omega]
         rfl
     rw [hsm, if_pos rfl, hmore]
     exact ⟨_, rfl, oP, cP, pairsI p q m, rfl, by rw [pairsI_len], by rw [pairsI_len]; exact SS.drop [_] (SS.drop [_] (SS.drop [_] hS))⟩
   ·
    try simp only [dqT, dqF, dq1, dq2, dq3, dq4, dq5] at h29
    refine ol_guard_no rfl rfl rfl rfl (ol_guard_no rfl rfl rfl rfl (ol_guard_no rfl rfl rfl rfl (ol_guard_no rfl rfl rfl rfl (ol_pure rfl (op_pick_f rfl rfl) (ol_nil (pq_then (cw_cond_f rfl ?_)))))))
    refine cw_exit (pq_exit (pq_exit (pq_in_exit (pq_then (cw_seq (cw_region (ol_pure rfl (op_move rfl) ?_)))))))
    refine ol_pure rfl (op_assign rfl) (ol_pure rfl (op_assign rfl) (ol_nil (pq_then (cw_ret ?_))))
    refine ret2 rfl rfl rfl ?_
    have hmore : moreI cs p q = pairsI p q m := by
      unfold moreI
      rw [hkp, hap]
      by_cases h4 : cs[p].kind = 4
      · rw [if_pos h4] at hm ⊢
        rw [show cs[p].n.toNat = m from by omega]
      · rw [if_neg h4] at hm ⊢
        rw [show m = 0 from by omega]
        rfl
    rw [hsm, if_pos rfl, hmore]
    exact ⟨_, rfl, oP, cP, pairsI p q m, rfl, by rw [pairsI_len], by rw [pairsI_len]; exact SS.drop [_] (SS.drop [_] (SS.drop [_] hS))⟩
set_option maxRecDepth 100000 in
set_option maxHeartbeats 4000000 in

theorem R08_Unify_c (G : GH) (w0 : World) (hG : Holds G w0) (hv : Value) (cs : List Cell) (tr : List Int) (room : Int) (hh : EHeap G hv cs tr room) (a b : Int) (n0 : Nat) (hUI0 : UI cs.length n0 cs [(a, b)] []) (hn : cs.length ≤ 1000) (htn : tr.length ≤ 1000000) (hnn : n0 ≤ 10000000) :
   Calls Try.prog 26 #[hv, .int .i64 a, .int .i64 b] w0 (Rt G w0 (UniR cs tr room (unif n0 cs tr [(a, b)] []))) := by
 have hh0 := hh
 obtain ⟨oc, cc, ot, ct, rfl, h1, h2⟩ := hh
 have hle := h1.le
 have hle2 := h2.le
 have hab := hUI0.rowp (a, b) (by simp)
 simp only at hab
 have hcur := Le.refl G
 refine enter Try.func26 rfl (N := 132) rfl (Nat.le_of_ble_eq_true rfl) ?_
 have hS := SS.init hG
 refine cw_seq (cw_region ?_)
 refine ol_step rfl (op_box hS rfl rfl) ?_
 clear hS
 rintro _ w ⟨b3, rfl, hS⟩
 refine ol_step rfl (op_alloc hS el_28 rfl) ?_
 clear hS
 rintro _ w ⟨b6, rfl, hS⟩
 refine ol_pure rfl (op_assign rfl) (ol_nil (pq_then (cw_seq (cw_seq (cw_region (ol_load rfl (op_loadN agg_28 rfl (by rfl) (fun w hw k u hk => (hw.bcell (i := 1) rfl).trans hk)) hS (ol_pure rfl (op_move rfl) ?_)))))))
 refine ol_step rfl (op_call_sc hS cf_35 rfl (R08_Is_c _ _ hS.hold _ cs tr room hh0 a)) ?_
 clear hS
 rintro _ w ⟨rfl, hS⟩
 refine ol_pure rfl (op_not rfl) (ol_pure rfl (op_move rfl) ?_)
 refine ol_split (fun h23 => ?_) (fun h23 => ?_)
 ·
  try simp only [dqT, dqF, dq1, dq2, dq3, dq4, dq5] at h23
  refine ol_guard_no rfl rfl rfl rfl (ol_guard_no rfl rfl rfl rfl (ol_guard_no rfl rfl rfl rfl (ol_guard_no rfl rfl rfl rfl (ol_pure rfl (op_pick_t rfl rfl) (ol_nil (pq_then (cw_cond_t rfl ?_)))))))
  refine cw_seq (cw_region (ol_load rfl (op_loadN agg_28 rfl (by rfl) (fun w hw k u hk => (hw.bcell (i := 1) rfl).trans hk)) hS ?_))
  refine ol_step0  (op_storeN (j := 0) hS sz_28 rfl rfl rfl rfl rfl (by simp [Value.oneCell'])) ?_
  clear hS
  rintro _ w hS; (try simp only [List.nil_append, List.cons_append, List.set] at hS)
  refine ol_pure rfl (op_assign rfl) (ol_nil (pq_then (cw_ret (pq_ret ?_))))
  refine retN2 rfl agg_28 rfl rfl (by rfl) (fun k u hk => (hS.bcell (i := 0) rfl).trans hk) ?_
  exfalso
  have ea : isP cs.length a = true := isP_iff.2 hab.1
  have eb : isP cs.length b = true := isP_iff.2 hab.2
  simp_all
 ·
  try simp only [dqT, dqF, dq1, dq2, dq3, dq4, dq5] at h23
  refine ol_guard_load rfl rfl rfl (op_loadN agg_28 rfl (by rfl) (fun w hw k u hk => (hw.bcell (i := 1) rfl).trans hk)) hS (ol_guard_pure rfl rfl rfl (op_move rfl) ?_)
  refine ol_guard_step rfl rfl rfl (op_call_sc hS cf_35 rfl (R08_Is_c _ _ hS.hold _ cs tr room hh0 b)) ?_
  clear hS
  rintro _ w ⟨rfl, hS⟩
  refine ol_guard_pure rfl rfl rfl (op_not rfl) (ol_pure rfl (op_pick_f rfl rfl) (ol_nil (pq_then ?_)))
  refine cw_cond rfl (fun h28 => ?_) (fun h28 => ?_)
  ·
   try simp only [dqT, dqF, dq1, dq2, dq3, dq4, dq5] at h28
   refine cw_seq (cw_region (ol_load rfl (op_loadN agg_28 rfl (by rfl) (fun w hw k u hk => (hw.bcell (i := 1) rfl).trans hk)) hS ?_))
   refine ol_step0  (op_storeN (j := 0) hS sz_28 rfl rfl rfl rfl rfl (by simp [Value.oneCell'])) ?_
   clear hS
   rintro _ w hS; (try simp only [List.nil_append, List.cons_append, List.set] at hS)
   refine ol_pure rfl (op_assign rfl) (ol_nil (pq_then (cw_ret (pq_ret ?_))))
   refine retN2 rfl agg_28 rfl rfl (by rfl) (fun k u hk => (hS.bcell (i := 0) rfl).trans hk) ?_
   exfalso
   have ea : isP cs.length a = true := isP_iff.2 hab.1
   have eb : isP cs.length b = true := isP_iff.2 hab.2
   simp_all
  ·
   try simp only [dqT, dqF, dq1, dq2, dq3, dq4, dq5] at h28
   refine cw_skip (pq_then (cw_seq (cw_region (ol_load rfl (op_loadN agg_28 rfl (by rfl) (fun w hw k u hk => (hw.bcell (i := 1) rfl).trans hk)) hS (ol_pure rfl (op_move rfl) (ol_pure rfl (op_move rfl) (ol_pure rfl (op_build (is := [0, 1]) (xs := [.tmp 31, .tmp 32]) (v := .agg #[.int .i64 a, .int .i64 b]) rfl rfl (fun w => by kernel_rfl)) ?_)))))))
   refine ol_step rfl (op_buildSlice (el := 86) (is := [0]) (xs := [.tmp 33]) (sz := 2) (cs := [.int .i64 a, .int .i64 b]) hS rfl rfl (fun w => by kernel_rfl) rfl (by decide)) ?_
   clear hS
   rintro _ w ⟨row, rfl, hS⟩
   refine ol_step rfl (op_buildSlice (el := 86) (is := []) (xs := []) (sz := 2) (cs := []) hS rfl rfl (fun w => by kernel_rfl) rfl (by decide)) ?_
   clear hS
   rintro _ w ⟨seen, rfl, hS⟩
   refine ol_step rfl (op_alloc hS el_28 rfl) ?_
   clear hS
   rintro _ w ⟨b8, rfl, hS⟩
   refine ol_step0  (op_storeN (j := 0) hS sz_28 rfl rfl rfl rfl rfl (by simp [Value.oneCell'])) ?_
   clear hS
   rintro _ w hS; (try simp only [List.nil_append, List.cons_append, List.set] at hS)
   refine ol_pure rfl (op_assign rfl) (ol_pure rfl (op_assign rfl) (ol_nil (pq_then (cw_seq (cw_block ?_)))))
   replace hS := SS.swap [] (SS.back1 [_, _] hS)
   simp only [List.nil_append, List.cons_append] at hS
   refine cw_loop (fun e w n => ∃ (Gc : GH) (cs1 : List Cell) (tr1 : List Int) (row seen : List (Int × Int)) (oX oY : Option Addr) (cX cY : Nat) (oR : Option Addr) (l9 cR : Nat) (oS : Option Addr) (l10 cS : Nat), e = [(3, .pointer (some ⟨b3, 0, none⟩)), (6, .pointer (some ⟨b6, 0, none⟩)), (8, .pointer (some ⟨b8, 0, none⟩)), (9, .slice oR l9 cR), (10, .slice oS l10 cS)] ∧ l9 = row.length ∧ l10 = seen.length ∧ Le G Gc ∧ unif n cs1 tr1 row seen = (unif n0 cs tr [(a, b)] []) ∧ UI cs.length n cs1 row seen ∧ tr1.length + n ≤ tr.length + n0 ∧ RSl 3 ECell Gc (.slice oX cs1.length cX) cs1 ∧ RSl 1 EInt Gc (.slice oY tr1.length cY) tr1 ∧ SS G w0 Gc [.row oR l9 cR 86 2 (pairsV row), .row oS l10 cS 86 2 (pairsV seen), .blk b8 28 [.slice oX cs1.length cX, .slice oY tr1.length cY, .int .i64 room], .blk b6 28 [.slice none 0 0, .slice none 0 0, .int .i64 0], .blk b3 28 [.slice oc cs.length cc, .slice ot tr.length ct, .int .i64 room]] w) _ _ (by exact ⟨G, cs, tr, [(a, b)], [], oc, ot, cc, ct, row, 1, 1, seen, 0, 0, rfl, rfl, rfl, hcur, rfl, hUI0, Nat.le_refl _, h1, h2, hS⟩) ((Sub.cons rfl (Sub.cons rfl (Sub.cons rfl (Sub.cons rfl (Sub.cons rfl Sub.nil)))))) ?_
   clear hS
   rintro e w n ⟨Gc, cs1, tr1, row, seen, oX, oY, cX, cY, oR, l9, cR, oS, l10, cS, rfl, rfl, hl10, hcur, hU, hUI, htl, hCc, hTt, hS⟩
   refine cw_seq (cw_seq (cw_region (ol_pure rfl (op_move rfl) (ol_pure rfl (op_len sl_87 rfl rfl) (ol_pure rfl (op_gtr rfl rfl) (ol_nil (pq_then ?_)))))))
   refine cw_cond rfl (fun h38 => ?_) (fun h38 => ?_)
   ·
    try simp only [dqT, dqF, dq1, dq2, dq3, dq4, dq5] at h38
    obtain ⟨p0, row2, rfl⟩ : ∃ p0 row2, row = p0 :: row2 := by
      cases row with
      | nil => simp at h38
      | cons x y => exact ⟨x, y, rfl⟩
    obtain ⟨a1, b1⟩ := p0
    obtain ⟨n, rfl⟩ := hUI.pos
    have hab1 := hUI.rowp (a1, b1) (by simp)
    simp only at hab1
    have hN := hUI.len
    have hhg : EHeap Gc (.agg #[.slice oX cs1.length cX, .slice oY tr1.length cY, .int .i64 room]) cs1 tr1 room := ⟨_, _, _, _, rfl, hCc, hTt⟩
    obtain ⟨ma, hfa, hfa0, hfa1⟩ := hUI.fol hab1.1.1 hab1.1.2
    obtain ⟨mb, hfb, hfb0, hfb1⟩ := hUI.fol hab1.2.1 hab1.2.2
    rw [unif_cons] at hU
    generalize hX : followC cs1 a1 = x at hfa hfa0 hfa1 hU
    generalize hY : followC cs1 b1 = y at hfb hfb0 hfb1 hU
    obtain ⟨p, rfl⟩ := Int.eq_ofNat_of_zero_le hfa0
    obtain ⟨q, rfl⟩ := Int.eq_ofNat_of_zero_le hfb0
    have hpl : p < cs1.length := by omega
    have hql : q < cs1.length := by omega
    have hkp := kindAt_at hpl
    have hkq := kindAt_at hql
    have hap := cellAt_at hpl
    have haq := cellAt_at hql
    have hea := hfa.end_
    have heb := hfb.end_
    have hrow0 : (pairsV ((a1, b1) :: row2))[0 * 2 + 0]? = some (.int .i64 a1) := rfl
    have hrow1 : (pairsV ((a1, b1) :: row2))[0 * 2 + 1]? = some (.int .i64 b1) := rfl
    have hor := (hS.news (j := 0) rfl _ _ hrow0).1
    simp only [List.length_cons] at hS
    refine cw_skip (pq_then (cw_block (cw_seq ?_)))
    refine al_start' hS (hS.take 3) (by kernel_rfl) rfl (fun w hS hT => ?_)
    refine al_load (i := 0) rfl (by kernel_rfl) (by kernel_rfl) (by kernel_rfl) rfl (fun _ _ _ h => h) (by exact op_loadN agg_28 rfl (by rfl) (fun w hw k u hk => (hw.bcell (i := 2) rfl).trans hk)) rfl hT (al_take (i := 1) rfl (by kernel_rfl) (by kernel_rfl) (by kernel_rfl) rfl (fun _ _ _ h => h) (op_move rfl) rfl (al_take (i := 2) rfl (by kernel_rfl) (by kernel_rfl) (by kernel_rfl) rfl (fun _ _ _ h => h) (op_indexN (i := 0) sl_87 rfl rfl (by simp) hor) rfl (al_take (i := 3) rfl (by kernel_rfl) (by kernel_rfl) (by kernel_rfl) rfl (fun _ _ _ h => h) (op_indexArr (i := 0) Try.underlying86 sz_3 rfl rfl (by decide) (by decide)) rfl (al_load (i := 4) rfl (by kernel_rfl) (by kernel_rfl) (by kernel_rfl) rfl (fun _ _ _ h => h) (by exact op_load1 one_3 rfl (fun w hw => hw.rcellF (j := 0) (i := 0 * 2) (f := 0) rfl hrow0)) rfl hT (al_load (i := 6) rfl (by kernel_rfl) (by kernel_rfl) (by kernel_rfl) rfl (fun _ _ _ h => h) (by exact op_loadN agg_28 rfl (by rfl) (fun w hw k u hk => (hw.bcell (i := 2) rfl).trans hk)) rfl hT (al_take (i := 7) rfl (by kernel_rfl) (by kernel_rfl) (by kernel_rfl) rfl (fun _ _ _ h => h) (op_move rfl) rfl (al_take (i := 8) rfl (by kernel_rfl) (by kernel_rfl) (by kernel_rfl) rfl (fun _ _ _ h => h) (op_indexN (i := 0) sl_87 rfl rfl (by simp) hor) rfl ?_)))))))
    refine al_take (i := 9) rfl (by kernel_rfl) (by kernel_rfl) (by kernel_rfl) rfl (fun _ _ _ h => h) (op_indexArr (i := 1) Try.underlying86 sz_3 rfl rfl (by decide) (by decide)) rfl (al_load (i := 10) rfl (by kernel_rfl) (by kernel_rfl) (by kernel_rfl) rfl (fun _ _ _ h => h) (by exact op_load1 one_3 rfl (fun w hw => hw.rcellF (j := 0) (i := 0 * 2) (f := 1) rfl hrow1)) rfl hT ?_)
    refine al_step (i := 5) rfl (by kernel_rfl) rfl (op_call_sc hS cf_53 rfl (R08_Follow_c _ _ hS.hold _ cs1 tr1 room hhg hUI.sh a1 (p : Int) ma (by omega) (by omega) hfa)) ?_
    clear hS
    rintro _ w ⟨rfl, hS⟩
    have hT := hT.back hS (by first | exact Le.refl _ | assumption) (fun x hx => by try simp only [bkA, bkB, bkC, bkD, bkE] at hx; (rcases hx with rfl | rfl | rfl) <;> simp)
    refine ⟨fun _ _ => hT, ?_⟩
    refine al_step (i := 11) rfl (by kernel_rfl) rfl (op_call_sc hS cf_53 rfl (R08_Follow_c _ _ hS.hold _ cs1 tr1 room hhg hUI.sh b1 (q : Int) mb (by omega) (by omega) hfb)) ?_
    clear hS
    rintro _ w ⟨rfl, hS⟩
    have hT := hT.back hS (by first | exact Le.refl _ | assumption) (fun x hx => by try simp only [bkA, bkB, bkC, bkD, bkE] at hx; (rcases hx with rfl | rfl | rfl) <;> simp)
    refine ⟨fun _ _ => hT, ?_⟩
    refine al_take (i := 12) rfl (by kernel_rfl) (by kernel_rfl) (by kernel_rfl) rfl (fun _ _ _ h => h) (op_assign rfl) rfl (al_take (i := 13) rfl (by kernel_rfl) (by kernel_rfl) (by kernel_rfl) rfl (fun _ _ _ h => h) (op_assign rfl) rfl (al_done (by kernel_rfl) (pq_then (cw_seq (cw_region ?_)))))
    refine ol_step rfl (op_buildSlice (el := 86) (is := []) (xs := []) (sz := 2) (cs := []) hS rfl rfl (fun w => by kernel_rfl) rfl (by decide)) ?_
    clear hS
    rintro _ w ⟨r2, rfl, hS⟩
    refine ol_pure rfl (op_move rfl) (ol_pure rfl (op_slice_l (l := 1) sl_87 rfl rfl (by simp)) ?_)
    replace hS := SS.cutRow [_] hS
    simp only [List.nil_append, List.cons_append] at hS
    rw [show (pairsV ((a1, b1) :: row2)).drop 2 = pairsV row2 from rfl] at hS
    have hrl := hUI.fuel
    simp only [List.length_cons] at hrl
    have hsl := pairs_le hUI.seenp hUI.nodup
    have hNN : cs.length * cs.length ≤ 1000 * 1000 := Nat.mul_le_mul hn hn
    refine ol_step rfl (op_append (j := 0) (m := row2.length) hS sl_87 el_86 rfl rfl rfl rfl rfl (by rw [pairsV_len]) (by decide) (hS.news (j := 1) rfl) (ones_p row2) (by omega) (by unfold maxLen; omega)) ?_
    clear hS
    rintro _ w ⟨rowb, c_rowb, rfl, hS⟩; (try simp only [List.nil_append, List.cons_append, List.set] at hS); replace hS := SS.drop [_] hS; (try simp only [List.nil_append, List.cons_append] at hS)
    rw [Nat.zero_add] at hS
    refine ol_pure rfl (op_assign rfl) (ol_nil (pq_then (cw_seq (cw_seq (cw_region (ol_pure rfl (op_move rfl) (ol_pure rfl (op_move rfl) ?_)))))))
    refine ol_pure rfl (op_eql rfl rfl) (ol_pure rfl (op_move rfl) ?_)
    refine ol_split (fun h58 => ?_) (fun h58 => ?_)
    ·
     try simp only [dqT, dqF, dq1, dq2, dq3, dq4, dq5] at h58
     refine ol_guard_no rfl rfl rfl rfl (ol_guard_no rfl rfl rfl rfl (ol_guard_no rfl rfl rfl rfl (ol_guard_no rfl rfl rfl rfl (ol_guard_no rfl rfl rfl rfl (ol_pure rfl (op_pick_t rfl rfl) (ol_nil (pq_then ?_)))))))
     refine cw_cond_t rfl (cw_exit (pq_exit (pq_in_exit ?_)))
     refine pq_loop _ _ (by exact ⟨Gc, cs1, tr1, row2, seen, oX, oY, cX, cY, rowb, _, c_rowb, oS, _, cS, rfl, Nat.zero_add _, hl10, hcur, by rw [← hU, if_pos (by first | exact .inl h58 | exact .inr h64)], hUI.skip, by omega, hCc, hTt, by rw [Nat.zero_add]; exact hS⟩) ((Sub.cons rfl (Sub.cons rfl (Sub.cons rfl (Sub.cons rfl (Sub.cons rfl Sub.nil)))))) (by omega)
    ·
     try simp only [dqT, dqF, dq1, dq2, dq3, dq4, dq5] at h58
     refine ol_guard_pure rfl rfl rfl (op_move rfl) (ol_guard_pure rfl rfl rfl (op_move rfl) (ol_guard_pure rfl rfl rfl (op_move rfl) (ol_guard_pure rfl rfl rfl (op_build (is := [0, 1]) (xs := [.tmp 60, .tmp 61]) (v := .agg #[.int .i64 (p : Nat), .int .i64 (q : Nat)]) rfl rfl (fun w => by kernel_rfl)) ?_)))
     have hlend := SS.lend (zs := seen) [_] hS (by decide) EPair.mono (Rows.pairs (InP.bd hUI.seenp (by omega))) hl10
     refine ol_guard_step rfl rfl rfl (op_call_sc hS cf_54 rfl (R08_Has_c (fullG _) _ (Holds.full _) _ seen hlend (p : Int) (q : Int))) ?_
     clear hS
     rintro _ w ⟨rfl, hS⟩
     refine ol_pure rfl (op_pick_f rfl rfl) (ol_nil (pq_then ?_))
     refine cw_cond rfl (fun h64 => ?_) (fun h64 => ?_)
     ·
      try simp only [dqT, dqF, dq1, dq2, dq3, dq4, dq5] at h64
      refine cw_exit (pq_exit (pq_in_exit ?_))
      refine pq_loop _ _ (by exact ⟨Gc, cs1, tr1, row2, seen, oX, oY, cX, cY, rowb, _, c_rowb, oS, _, cS, rfl, Nat.zero_add _, hl10, hcur, by rw [← hU, if_pos (by first | exact .inl h58 | exact .inr h64)], hUI.skip, by omega, hCc, hTt, by rw [Nat.zero_add]; exact hS⟩) ((Sub.cons rfl (Sub.cons rfl (Sub.cons rfl (Sub.cons rfl (Sub.cons rfl Sub.nil)))))) (by omega)
     ·
      try simp only [dqT, dqF, dq1, dq2, dq3, dq4, dq5] at h64
      have hne : ¬ (((p : Nat) : Int) = (q : Nat) ∨ (((p : Nat) : Int), ((q : Nat) : Int)) ∈ seen) := by
        rintro (hh | hh)
        · exact h58 hh
        · exact h64 hh
      rw [if_neg hne] at hU
      obtain ⟨hoX, hbp, hcp⟩ := hCc.cellAt hpl
      obtain ⟨hoX2, hbq, hcq⟩ := hCc.cellAt hql
      refine cw_skip (pq_then (cw_seq ?_))
      refine al_start' hS (hS.take 3) (by kernel_rfl) rfl (fun w hS hT => ?_)
      refine al_take (i := 0) rfl (by kernel_rfl) (by kernel_rfl) (by kernel_rfl) rfl (fun _ _ _ h => h) (op_fieldAddr fld_28_0 rfl) rfl (al_load (i := 1) rfl (by kernel_rfl) (by kernel_rfl) (by kernel_rfl) rfl (fun _ _ _ h => h) (by exact op_load1 one_25 rfl (fun w hw => (hw.bcell (i := 2) rfl).trans rfl)) rfl hT (al_take (i := 2) rfl (by kernel_rfl) (by kernel_rfl) (by kernel_rfl) rfl (fun _ _ _ h => h) (op_move rfl) rfl (al_take (i := 3) rfl (by kernel_rfl) (by kernel_rfl) (by kernel_rfl) rfl (fun _ _ _ h => h) (op_indexN sl_25 rfl rfl (by omega) hoX) rfl (al_take (i := 4) rfl (by kernel_rfl) (by kernel_rfl) (by kernel_rfl) rfl (fun _ _ _ h => h) (op_fieldAddr fld_49_0 rfl) rfl (al_load (i := 5) rfl (by kernel_rfl) (by kernel_rfl) (by kernel_rfl) rfl (fun _ _ _ h => h) (by exact op_load1 one_3 rfl (fun w hw => hw.gcell (hcp 0 _ rfl))) rfl hT (al_take (i := 6) rfl (by kernel_rfl) (by kernel_rfl) (by kernel_rfl) rfl (fun _ _ _ h => h) (op_eql rfl rfl) rfl (al_take (i := 7) rfl (by kernel_rfl) (by kernel_rfl) (by kernel_rfl) rfl (fun _ _ _ h => h) (op_fieldAddr fld_28_0 rfl) rfl ?_)))))))
      refine al_load (i := 8) rfl (by kernel_rfl) (by kernel_rfl) (by kernel_rfl) rfl (fun _ _ _ h => h) (by exact op_load1 one_25 rfl (fun w hw => (hw.bcell (i := 2) rfl).trans rfl)) rfl hT (al_take (i := 9) rfl (by kernel_rfl) (by kernel_rfl) (by kernel_rfl) rfl (fun _ _ _ h => h) (op_move rfl) rfl (al_take (i := 10) rfl (by kernel_rfl) (by kernel_rfl) (by kernel_rfl) rfl (fun _ _ _ h => h) (op_indexN sl_25 rfl rfl (by omega) hoX2) rfl (al_take (i := 11) rfl (by kernel_rfl) (by kernel_rfl) (by kernel_rfl) rfl (fun _ _ _ h => h) (op_fieldAddr fld_49_0 rfl) rfl (al_load (i := 12) rfl (by kernel_rfl) (by kernel_rfl) (by kernel_rfl) rfl (fun _ _ _ h => h) (by exact op_load1 one_3 rfl (fun w hw => hw.gcell (hcq 0 _ rfl))) rfl hT (al_take (i := 13) rfl (by kernel_rfl) (by kernel_rfl) (by kernel_rfl) rfl (fun _ _ _ h => h) (op_eql rfl rfl) rfl (al_take (i := 14) rfl (by kernel_rfl) (by kernel_rfl) (by kernel_rfl) rfl (fun _ _ _ h => h) (op_assign rfl) rfl (al_take (i := 15) rfl (by kernel_rfl) (by kernel_rfl) (by kernel_rfl) rfl (fun _ _ _ h => h) (op_assign rfl) rfl ?_)))))))
      refine al_done (by kernel_rfl) (pq_then (cw_seq (cw_region (ol_pure rfl (op_move rfl) (ol_pure rfl (op_move rfl) ?_)))))
      refine ol_split (fun h80 => ?_) (fun h80 => ?_)
      ·
       try simp only [dqT, dqF, dq1, dq2, dq3, dq4, dq5] at h80
       refine ol_guard_pure rfl rfl rfl (op_move rfl) (ol_pure rfl (op_pick_t rfl rfl) (ol_nil (pq_then ?_)))
       refine cw_cond rfl (fun h82 => ?_) (fun h82 => ?_)
       ·
        try simp only [dqT, dqF, dq1, dq2, dq3, dq4, dq5] at h82
        rw [if_pos ⟨by rw [hkp]; exact h80, by rw [hkq]; exact h82⟩] at hU
        have hfp := fol_free hea (by omega) (by omega) (by rw [hkp]; exact h80)
        have hfq := fol_free heb (by omega) (by omega) (by rw [hkq]; exact h82)
        rw [show max ((p : Nat) : Int) (q : Nat) = ((max p q : Nat) : Int) from by omega, show min ((p : Nat) : Int) (q : Nat) = ((min p q : Nat) : Int) from by omega] at hU
        have hnr : ¬ Rc cs1 ((min p q : Nat) : Int) ((max p q : Nat) : Int) := fun hh => by
          rcases Nat.le_total p q with hle | hle
          · rw [Nat.min_eq_left hle, Nat.max_eq_right hle] at hh
            have := Rc_free hh hfp.1
            exact h58 (by omega)
          · rw [Nat.min_eq_right hle, Nat.max_eq_left hle] at hh
            have := Rc_free hh hfq.1
            exact h58 (by omega)
        refine cw_region (ol_load rfl (op_loadN agg_28 rfl (by rfl) (fun w hw k u hk => (hw.bcell (i := 2) rfl).trans hk)) hS (ol_pure rfl (op_move rfl) (ol_pure rfl (op_move rfl) (ol_pure rfl (op_maxN rfl rfl) (ol_pure rfl (op_move rfl) (ol_pure rfl (op_move rfl) (ol_pure rfl (op_minN rfl rfl) ?_)))))))
        refine ol_step rfl (op_call_rt hS cf_55 rfl (fun _ => .inr rfl) (heap_mono) (R08_Bind_c _ _ hS.hold _ cs1 tr1 room hhg ((max p q : Nat) : Int) ((min p q : Nat) : Int) (by omega) (by omega) (by omega) (by omega) (by omega) (by omega))) ?_
        clear hS
        rintro v90 w ⟨G90, hl90, hR90, hS⟩
        obtain ⟨oP, cP, oQ, cQ, rfl, hCb, hTb⟩ := hR90
        refine ol_step0  (op_storeN (j := 2) hS sz_28 rfl rfl rfl rfl rfl (by simp [Value.oneCell'])) ?_
        clear hS
        rintro _ w hS; (try simp only [List.nil_append, List.cons_append, List.set] at hS)
        refine ol_nil (pq_in_normal ?_)
        refine pq_loop _ _ (by exact ⟨G90, _, _, row2, seen, oP, oQ, cP, cQ, rowb, _, c_rowb, oS, _, cS, rfl, Nat.zero_add _, hl10, hcur.trans hl90, hU, hUI.skip.bind (x := ((max p q : Nat) : Int)) (y := ((min p q : Nat) : Int)) (by omega) (by omega) (by omega) (by omega) hnr, by simp only [List.length_append, List.length_cons, List.length_nil]; omega, hCb, hTb, by rw [Nat.zero_add]; exact hS⟩) ((Sub.cons rfl (Sub.cons rfl (Sub.cons rfl (Sub.cons rfl (Sub.cons rfl Sub.nil)))))) (by omega)
       ·
        try simp only [dqT, dqF, dq1, dq2, dq3, dq4, dq5] at h82
        refine cw_seq (cw_region (ol_pure rfl (op_move rfl) (ol_pure rfl (op_move rfl) ?_)))
        refine ol_split (fun h92 => ?_) (fun h92 => ?_)
        ·
         try simp only [dqT, dqF, dq1, dq2, dq3, dq4, dq5] at h92
         refine ol_guard_no rfl rfl rfl rfl (ol_pure rfl (op_pick_t rfl rfl) (ol_nil (pq_then (cw_cond_t rfl (cw_seq ?_)))))
         have hone : kindAt cs1 ((p : Nat) : Int) = 1 ∨ kindAt cs1 ((q : Nat) : Int) = 1 := by rw [hkp, hkq]; omega
         have hnb : ¬ (kindAt cs1 ((p : Nat) : Int) = 1 ∧ kindAt cs1 ((q : Nat) : Int) = 1) := by rw [hkp, hkq]; omega
         rw [if_neg hnb] at hU
         refine cw_region (ol_pure rfl (op_move rfl) (ol_pure rfl (op_move rfl) (ol_pure rfl (op_assign rfl) (ol_pure rfl (op_assign rfl) (ol_nil (pq_then ?_))))))
         refine cw_cut (fun e w => ∃ (f g : Nat), e = [(3, .pointer (some ⟨b3, 0, none⟩)), (6, .pointer (some ⟨b6, 0, none⟩)), (8, .pointer (some ⟨b8, 0, none⟩)), (9, .slice rowb (0 + row2.length) c_rowb), (10, .slice oS l10 cS), (15, .int .i64 (f : Nat)), (16, .int .i64 (g : Nat))] ∧ (f < cs1.length ∧ g < cs1.length) ∧ ((if atB (liveB cs1 [(g : Int)]) (f : Int) = true then none else unif n (bindC cs1 f g) (tr1 ++ [(f : Int)]) row2 seen) = (unif n0 cs tr [(a, b)] [])) ∧ SS G w0 Gc [.row rowb row2.length c_rowb 86 2 (pairsV row2), .row oS l10 cS 86 2 (pairsV seen), .blk b8 28 [.slice oX cs1.length cX, .slice oY tr1.length cY, .int .i64 room], .blk b6 28 [.slice none 0 0, .slice none 0 0, .int .i64 0], .blk b3 28 [.slice oc cs.length cc, .slice ot tr.length ct, .int .i64 room]] w) ?_ ?_
         ·
          refine cw_seq (cw_region (ol_pure rfl (op_move rfl) (ol_nil (pq_then ?_))))
          refine cw_cond rfl (fun h97 => ?_) (fun h97 => ?_)
          ·
           try simp only [dqT, dqF, dq1, dq2, dq3, dq4, dq5] at h97
           refine cw_region (ol_pure rfl (op_move rfl) (ol_pure rfl (op_move rfl) (ol_pure rfl (op_assign rfl) (ol_pure rfl (op_assign rfl) (ol_nil ?_)))))
           first | (exfalso; omega) | refine pq_cut _ (by exact (by first | exact ⟨q, p, rfl, ⟨hql, hpl⟩, by rw [← hU, if_pos (show kindAt cs1 ((q : Nat) : Int) = 1 from by rw [hkq]; assumption)], hS⟩ | exact ⟨p, q, rfl, ⟨hpl, hql⟩, by rw [← hU, if_neg (show ¬ kindAt cs1 ((q : Nat) : Int) = 1 from by rw [hkq]; assumption), if_pos (show kindAt cs1 ((p : Nat) : Int) = 1 from by rw [hkp]; omega)], hS⟩)) ((Sub.cons rfl (Sub.cons rfl (Sub.cons rfl (Sub.cons rfl (Sub.cons rfl (Sub.cons rfl (Sub.cons rfl Sub.nil))))))))
          ·
           try simp only [dqT, dqF, dq1, dq2, dq3, dq4, dq5] at h97
           refine cw_skip ?_
           first | (exfalso; omega) | refine pq_cut _ (by exact (by first | exact ⟨q, p, rfl, ⟨hql, hpl⟩, by rw [← hU, if_pos (show kindAt cs1 ((q : Nat) : Int) = 1 from by rw [hkq]; assumption)], hS⟩ | exact ⟨p, q, rfl, ⟨hpl, hql⟩, by rw [← hU, if_neg (show ¬ kindAt cs1 ((q : Nat) : Int) = 1 from by rw [hkq]; assumption), if_pos (show kindAt cs1 ((p : Nat) : Int) = 1 from by rw [hkp]; omega)], hS⟩)) ((Sub.cons rfl (Sub.cons rfl (Sub.cons rfl (Sub.cons rfl (Sub.cons rfl (Sub.cons rfl (Sub.cons rfl Sub.nil))))))))
         clear hS
         rintro e w ⟨f, g, rfl, hfg, hU2, hS⟩
         refine cw_seq (cw_seq (cw_region (ol_load rfl (op_loadN agg_28 rfl (by rfl) (fun w hw k u hk => (hw.bcell (i := 2) rfl).trans hk)) hS (ol_pure rfl (op_move rfl) ?_))))
         refine ol_step rfl (op_call_fr hS cf_27 rfl (R08_Reach_c _ _ hS.hold _ cs1 tr1 room hhg g hfg.2 hUI.sh (by omega))) ?_
         clear hS
         rintro v102 w ⟨F102, G102, hR102, hF102, hf102, hl102, hS⟩
         obtain ⟨o7, c7, rfl, _, _⟩ := hR102.elimN (liveB_len cs1 [(g : Int)])
         replace hR102 := hR102.mono EBool.mono hf102
         obtain ⟨ho7, hc7⟩ := hR102.bool (i := f) (by rw [liveB_len]; exact hfg.1)
         have hat : (liveB cs1 [(g : Int)])[f]'(by rw [liveB_len]; exact hfg.1) = atB (liveB cs1 [(g : Int)]) (f : Int) := by rw [atB_nat]; simp [liveB_len, hfg.1]
         rw [hat] at hc7
         have hhg2 := hhg.mono hl102
         refine ol_pure rfl (op_move rfl) (ol_pure rfl (op_indexN (n := cs1.length) sl_34 rfl rfl hfg.1 ho7) (ol_load rfl (op_load1 one_4 rfl (fun w hw => hw.gcell hc7)) hS (ol_nil (pq_then ?_))))
         refine cw_cond rfl (fun h105 => ?_) (fun h105 => ?_)
         ·
          try simp only [dqT, dqF, dq1, dq2, dq3, dq4, dq5] at h105
          refine cw_seq (cw_region (ol_load rfl (op_loadN agg_28 rfl (by rfl) (fun w hw k u hk => (hw.bcell (i := 4) rfl).trans hk)) hS ?_))
          refine ol_step0  (op_storeN (j := 3) hS sz_28 rfl rfl rfl rfl rfl (by simp [Value.oneCell'])) ?_
          clear hS
          rintro _ w hS; (try simp only [List.nil_append, List.cons_append, List.set] at hS)
          refine ol_pure rfl (op_assign rfl) (ol_nil (pq_then (cw_ret (pq_ret (pq_in_ret (pq_ret (pq_in_ret ?_)))))))
          refine pq_ret ?_
          refine retN2 rfl agg_28 rfl rfl (by rfl) (fun k u hk => (hS.bcell (i := 3) rfl).trans hk) ?_
          rw [h105] at hU2
          rw [if_pos rfl] at hU2
          exact hS.rt _ ⟨_, by rw [← hU2]; rfl, by rw [← hU2]; exact hh0.mono (hcur.trans hl102)⟩
         ·
          try simp only [dqT, dqF, dq1, dq2, dq3, dq4, dq5] at h105
          rw [h105] at hU2
          simp only [Bool.false_eq_true, if_false] at hU2
          have hnr : ¬ Rc cs1 ((g : Nat) : Int) ((f : Nat) : Int) := fun hh => by
            have := (liveB_iff hUI.sh hfg.1 (roots := [(g : Int)])).2 ⟨_, by simp, by omega, hh⟩
            rw [h105] at this
            cases this
          refine cw_skip (pq_then (cw_region (ol_load rfl (op_loadN agg_28 rfl (by rfl) (fun w hw k u hk => (hw.bcell (i := 2) rfl).trans hk)) hS (ol_pure rfl (op_move rfl) (ol_pure rfl (op_move rfl) ?_)))))
          refine ol_step rfl (op_call_rt hS cf_55 rfl (fun _ => .inr rfl) (heap_mono) (R08_Bind_c _ _ hS.hold _ cs1 tr1 room hhg2 (f : Int) (g : Int) (by omega) (by omega) (by omega) (by omega) (by omega) (by omega))) ?_
          clear hS
          rintro v110 w ⟨G110, hl110, hR110, hS⟩
          obtain ⟨oP, cP, oQ, cQ, rfl, hCb, hTb⟩ := hR110
          refine ol_step0  (op_storeN (j := 2) hS sz_28 rfl rfl rfl rfl rfl (by simp [Value.oneCell'])) ?_
          clear hS
          rintro _ w hS; (try simp only [List.nil_append, List.cons_append, List.set] at hS)
          refine ol_nil (pq_in_normal ?_)
          refine pq_loop _ _ (by exact ⟨G110, _, _, row2, seen, oP, oQ, cP, cQ, rowb, _, c_rowb, oS, _, cS, rfl, Nat.zero_add _, hl10, (hcur.trans hl102).trans hl110, hU2, hUI.skip.bind (x := (f : Int)) (y := (g : Int)) (by omega) (by omega) (by omega) (by omega) hnr, by simp only [List.length_append, List.length_cons, List.length_nil]; omega, hCb, hTb, by rw [Nat.zero_add]; exact hS⟩) ((Sub.cons rfl (Sub.cons rfl (Sub.cons rfl (Sub.cons rfl (Sub.cons rfl Sub.nil)))))) (by omega)
        ·
         try simp only [dqT, dqF, dq1, dq2, dq3, dq4, dq5] at h92
         refine ol_guard_pure rfl rfl rfl (op_move rfl) (ol_pure rfl (op_pick_f rfl rfl) (ol_nil (pq_then ?_)))
         refine cw_cond rfl (fun h94 => ?_) (fun h94 => ?_)
         ·
          try simp only [dqT, dqF, dq1, dq2, dq3, dq4, dq5] at h94
          refine cw_seq ?_
          have hone : kindAt cs1 ((p : Nat) : Int) = 1 ∨ kindAt cs1 ((q : Nat) : Int) = 1 := by rw [hkp, hkq]; omega
          have hnb : ¬ (kindAt cs1 ((p : Nat) : Int) = 1 ∧ kindAt cs1 ((q : Nat) : Int) = 1) := by rw [hkp, hkq]; omega
          rw [if_neg hnb] at hU
          refine cw_region (ol_pure rfl (op_move rfl) (ol_pure rfl (op_move rfl) (ol_pure rfl (op_assign rfl) (ol_pure rfl (op_assign rfl) (ol_nil (pq_then ?_))))))
          refine cw_cut (fun e w => ∃ (f g : Nat), e = [(3, .pointer (some ⟨b3, 0, none⟩)), (6, .pointer (some ⟨b6, 0, none⟩)), (8, .pointer (some ⟨b8, 0, none⟩)), (9, .slice rowb (0 + row2.length) c_rowb), (10, .slice oS l10 cS), (15, .int .i64 (f : Nat)), (16, .int .i64 (g : Nat))] ∧ (f < cs1.length ∧ g < cs1.length) ∧ ((if atB (liveB cs1 [(g : Int)]) (f : Int) = true then none else unif n (bindC cs1 f g) (tr1 ++ [(f : Int)]) row2 seen) = (unif n0 cs tr [(a, b)] [])) ∧ SS G w0 Gc [.row rowb row2.length c_rowb 86 2 (pairsV row2), .row oS l10 cS 86 2 (pairsV seen), .blk b8 28 [.slice oX cs1.length cX, .slice oY tr1.length cY, .int .i64 room], .blk b6 28 [.slice none 0 0, .slice none 0 0, .int .i64 0], .blk b3 28 [.slice oc cs.length cc, .slice ot tr.length ct, .int .i64 room]] w) ?_ ?_
          ·
           refine cw_seq (cw_region (ol_pure rfl (op_move rfl) (ol_nil (pq_then ?_))))
           refine cw_cond rfl (fun h97 => ?_) (fun h97 => ?_)
           ·
            try simp only [dqT, dqF, dq1, dq2, dq3, dq4, dq5] at h97
            refine cw_region (ol_pure rfl (op_move rfl) (ol_pure rfl (op_move rfl) (ol_pure rfl (op_assign rfl) (ol_pure rfl (op_assign rfl) (ol_nil ?_)))))
            first | (exfalso; omega) | refine pq_cut _ (by exact (by first | exact ⟨q, p, rfl, ⟨hql, hpl⟩, by rw [← hU, if_pos (show kindAt cs1 ((q : Nat) : Int) = 1 from by rw [hkq]; assumption)], hS⟩ | exact ⟨p, q, rfl, ⟨hpl, hql⟩, by rw [← hU, if_neg (show ¬ kindAt cs1 ((q : Nat) : Int) = 1 from by rw [hkq]; assumption), if_pos (show kindAt cs1 ((p : Nat) : Int) = 1 from by rw [hkp]; omega)], hS⟩)) ((Sub.cons rfl (Sub.cons rfl (Sub.cons rfl (Sub.cons rfl (Sub.cons rfl (Sub.cons rfl (Sub.cons rfl Sub.nil))))))))
           ·
            try simp only [dqT, dqF, dq1, dq2, dq3, dq4, dq5] at h97
            refine cw_skip ?_
            first | (exfalso; omega) | refine pq_cut _ (by exact (by first | exact ⟨q, p, rfl, ⟨hql, hpl⟩, by rw [← hU, if_pos (show kindAt cs1 ((q : Nat) : Int) = 1 from by rw [hkq]; assumption)], hS⟩ | exact ⟨p, q, rfl, ⟨hpl, hql⟩, by rw [← hU, if_neg (show ¬ kindAt cs1 ((q : Nat) : Int) = 1 from by rw [hkq]; assumption), if_pos (show kindAt cs1 ((p : Nat) : Int) = 1 from by rw [hkp]; omega)], hS⟩)) ((Sub.cons rfl (Sub.cons rfl (Sub.cons rfl (Sub.cons rfl (Sub.cons rfl (Sub.cons rfl (Sub.cons rfl Sub.nil))))))))
          clear hS
          rintro e w ⟨f, g, rfl, hfg, hU2, hS⟩
          refine cw_seq (cw_seq (cw_region (ol_load rfl (op_loadN agg_28 rfl (by rfl) (fun w hw k u hk => (hw.bcell (i := 2) rfl).trans hk)) hS (ol_pure rfl (op_move rfl) ?_))))
          refine ol_step rfl (op_call_fr hS cf_27 rfl (R08_Reach_c _ _ hS.hold _ cs1 tr1 room hhg g hfg.2 hUI.sh (by omega))) ?_
          clear hS
          rintro v102 w ⟨F102, G102, hR102, hF102, hf102, hl102, hS⟩
          obtain ⟨o7, c7, rfl, _, _⟩ := hR102.elimN (liveB_len cs1 [(g : Int)])
          replace hR102 := hR102.mono EBool.mono hf102
          obtain ⟨ho7, hc7⟩ := hR102.bool (i := f) (by rw [liveB_len]; exact hfg.1)
          have hat : (liveB cs1 [(g : Int)])[f]'(by rw [liveB_len]; exact hfg.1) = atB (liveB cs1 [(g : Int)]) (f : Int) := by rw [atB_nat]; simp [liveB_len, hfg.1]
          rw [hat] at hc7
          have hhg2 := hhg.mono hl102
          refine ol_pure rfl (op_move rfl) (ol_pure rfl (op_indexN (n := cs1.length) sl_34 rfl rfl hfg.1 ho7) (ol_load rfl (op_load1 one_4 rfl (fun w hw => hw.gcell hc7)) hS (ol_nil (pq_then ?_))))
          refine cw_cond rfl (fun h105 => ?_) (fun h105 => ?_)
          ·
           try simp only [dqT, dqF, dq1, dq2, dq3, dq4, dq5] at h105
           refine cw_seq (cw_region (ol_load rfl (op_loadN agg_28 rfl (by rfl) (fun w hw k u hk => (hw.bcell (i := 4) rfl).trans hk)) hS ?_))
           refine ol_step0  (op_storeN (j := 3) hS sz_28 rfl rfl rfl rfl rfl (by simp [Value.oneCell'])) ?_
           clear hS
           rintro _ w hS; (try simp only [List.nil_append, List.cons_append, List.set] at hS)
           refine ol_pure rfl (op_assign rfl) (ol_nil (pq_then (cw_ret (pq_ret (pq_in_ret (pq_ret (pq_in_ret ?_)))))))
           refine pq_ret ?_
           refine retN2 rfl agg_28 rfl rfl (by rfl) (fun k u hk => (hS.bcell (i := 3) rfl).trans hk) ?_
           rw [h105] at hU2
           rw [if_pos rfl] at hU2
           exact hS.rt _ ⟨_, by rw [← hU2]; rfl, by rw [← hU2]; exact hh0.mono (hcur.trans hl102)⟩
          ·
           try simp only [dqT, dqF, dq1, dq2, dq3, dq4, dq5] at h105
           rw [h105] at hU2
           simp only [Bool.false_eq_true, if_false] at hU2
           have hnr : ¬ Rc cs1 ((g : Nat) : Int) ((f : Nat) : Int) := fun hh => by
             have := (liveB_iff hUI.sh hfg.1 (roots := [(g : Int)])).2 ⟨_, by simp, by omega, hh⟩
             rw [h105] at this
             cases this
           refine cw_skip (pq_then (cw_region (ol_load rfl (op_loadN agg_28 rfl (by rfl) (fun w hw k u hk => (hw.bcell (i := 2) rfl).trans hk)) hS (ol_pure rfl (op_move rfl) (ol_pure rfl (op_move rfl) ?_)))))
           refine ol_step rfl (op_call_rt hS cf_55 rfl (fun _ => .inr rfl) (heap_mono) (R08_Bind_c _ _ hS.hold _ cs1 tr1 room hhg2 (f : Int) (g : Int) (by omega) (by omega) (by omega) (by omega) (by omega) (by omega))) ?_
           clear hS
           rintro v110 w ⟨G110, hl110, hR110, hS⟩
           obtain ⟨oP, cP, oQ, cQ, rfl, hCb, hTb⟩ := hR110
           refine ol_step0  (op_storeN (j := 2) hS sz_28 rfl rfl rfl rfl rfl (by simp [Value.oneCell'])) ?_
           clear hS
           rintro _ w hS; (try simp only [List.nil_append, List.cons_append, List.set] at hS)
           refine ol_nil (pq_in_normal ?_)
           refine pq_loop _ _ (by exact ⟨G110, _, _, row2, seen, oP, oQ, cP, cQ, rowb, _, c_rowb, oS, _, cS, rfl, Nat.zero_add _, hl10, (hcur.trans hl102).trans hl110, hU2, hUI.skip.bind (x := (f : Int)) (y := (g : Int)) (by omega) (by omega) (by omega) (by omega) hnr, by simp only [List.length_append, List.length_cons, List.length_nil]; omega, hCb, hTb, by rw [Nat.zero_add]; exact hS⟩) ((Sub.cons rfl (Sub.cons rfl (Sub.cons rfl (Sub.cons rfl (Sub.cons rfl Sub.nil)))))) (by omega)
         ·
          try simp only [dqT, dqF, dq1, dq2, dq3, dq4, dq5] at h94
          refine cw_seq ?_
          have hnp : ¬ kindAt cs1 ((p : Nat) : Int) = 1 := by rw [hkp]; omega
          have hnq : ¬ kindAt cs1 ((q : Nat) : Int) = 1 := by rw [hkq]; omega
          rw [if_neg (fun hh => hnp hh.1), if_neg hnq, if_neg hnp, hap, haq] at hU
          refine cw_region (ol_load rfl (op_loadN agg_28 rfl (by rfl) (fun w hw k u hk => (hw.bcell (i := 2) rfl).trans hk)) hS (ol_pure rfl (op_move rfl) (ol_pure rfl (op_move rfl) ?_)))
          refine ol_step rfl (op_call cf_56 rfl (R08_pairs_c hS _ cs1 tr1 room hhg p q hpl hql hUI.sh (by omega))) ?_
          clear hS
          rintro _ w ⟨oM, cM, L, hL, rfl, hS⟩
          refine ol_pure rfl (op_move rfl) (ol_pure rfl (op_extract (vs := [.slice oM L.length cM, .bool (sameC cs1[p] cs1[q])]) rfl rfl) (ol_pure rfl (op_extract (vs := [.slice oM L.length cM, .bool (sameC cs1[p] cs1[q])]) rfl rfl) (ol_pure rfl (op_assign rfl) (ol_pure rfl (op_assign rfl) (ol_nil (pq_then (cw_seq ?_)))))))
          refine cw_seq (cw_region (ol_pure rfl (op_move rfl) (ol_pure rfl (op_not rfl) (ol_nil (pq_then ?_)))))
          refine cw_cond rfl (fun h119 => ?_) (fun h119 => ?_)
          ·
           try simp only [dqT, dqF, dq1, dq2, dq3, dq4, dq5] at h119
           refine cw_seq (cw_region (ol_load rfl (op_loadN agg_28 rfl (by rfl) (fun w hw k u hk => (hw.bcell (i := 5) rfl).trans hk)) hS ?_))
           refine ol_step0  (op_storeN (j := 4) hS sz_28 rfl rfl rfl rfl rfl (by simp [Value.oneCell'])) ?_
           clear hS
           rintro _ w hS; (try simp only [List.nil_append, List.cons_append, List.set] at hS)
           refine ol_pure rfl (op_assign rfl) (ol_nil (pq_then (cw_ret (pq_ret (pq_in_ret (pq_ret (pq_in_ret ?_)))))))
           refine pq_ret ?_
           refine retN2 rfl agg_28 rfl rfl (by rfl) (fun k u hk => (hS.bcell (i := 4) rfl).trans hk) ?_
           have hsm : sameC cs1[p] cs1[q] = false := h119
           rw [hsm, if_neg (by decide)] at hU
           exact hS.rt _ ⟨_, by rw [← hU]; rfl, by rw [← hU]; exact hh0.mono hcur⟩
          ·
           try simp only [dqT, dqF, dq1, dq2, dq3, dq4, dq5] at h119
           refine cw_skip (pq_then (cw_seq ?_))
           have hsm : sameC cs1[p] cs1[q] = true := h119
           rw [if_pos hsm] at hU hL
           have hnm : (((p : Nat) : Int), ((q : Nat) : Int)) ∉ seen := fun hh => hne (.inr hh)
           have hUm := hUI.more (x := (p : Int)) (y := (q : Int)) (by omega) (by omega) (by omega) (by omega) (by rw [hap, haq]; exact hsm) hnm
           rw [← hL] at hU hUm
           have hmf := hUm.fuel
           simp only [List.length_append] at hmf
           refine cw_region (ol_pure rfl (op_move rfl) (ol_pure rfl (op_move rfl) (ol_pure rfl (op_move rfl) (ol_pure rfl (op_build (is := [0, 1]) (xs := [.tmp 122, .tmp 123]) (v := .agg #[.int .i64 (p : Nat), .int .i64 (q : Nat)]) rfl rfl (fun w => by kernel_rfl)) ?_))))
           refine ol_step rfl (op_buildSlice (el := 86) (is := [0]) (xs := [.tmp 124]) (sz := 2) (cs := [.int .i64 (p : Nat), .int .i64 (q : Nat)]) hS rfl rfl (fun w => by kernel_rfl) rfl (by decide)) ?_
           clear hS
           rintro _ w ⟨s125, rfl, hS⟩
           refine ol_step rfl (op_append (j := 3) hS sl_87 el_86 rfl rfl rfl rfl rfl rfl (by decide) (hS.news (j := 0) rfl) (by simp [Value.oneCell']) (by omega) (by unfold maxLen; omega)) ?_
           clear hS
           rintro _ w ⟨oz, c_oz, rfl, hS⟩; (try simp only [List.nil_append, List.cons_append, List.set] at hS); replace hS := SS.drop [] hS; (try simp only [List.nil_append, List.cons_append] at hS)
           refine ol_pure rfl (op_assign rfl) (ol_nil (pq_then (cw_seq (cw_region (ol_pure rfl (op_move rfl) (ol_pure rfl (op_move rfl) ?_))))))
           refine ol_step rfl (op_append (j := 0) (m := 0 + row2.length) hS sl_87 el_86 rfl rfl rfl rfl rfl (by rw [pairsV_len, Nat.zero_add]) (by decide) (hS.news (j := 1) rfl) (ones_p row2) (by omega) (by unfold maxLen; omega)) ?_
           clear hS
           rintro _ w ⟨oy, c_oy, rfl, hS⟩; (try simp only [List.nil_append, List.cons_append, List.set] at hS); replace hS := SS.drop [_] hS; (try simp only [List.nil_append, List.cons_append] at hS)
           refine ol_pure rfl (op_assign rfl) (ol_nil (pq_then (cw_region (ol_pure rfl (op_move rfl) (ol_pure rfl (op_assign rfl) (ol_nil (pq_in_normal ?_)))))))
           refine pq_loop _ _ (by exact ⟨Gc, cs1, tr1, L ++ row2, seen ++ [((p : Int), (q : Int))], oX, oY, cX, cY, oy, L.length + (0 + row2.length), c_oy, oz, l10 + 1, c_oz, rfl, by rw [List.length_append, Nat.zero_add], by simp [hl10], hcur, hU, hUm, by omega, hCc, hTt, by rw [pairsV_app, pairsV_app]; exact hS⟩) ((Sub.cons rfl (Sub.cons rfl (Sub.cons rfl (Sub.cons rfl (Sub.cons rfl Sub.nil)))))) (by omega)
      ·
       try simp only [dqT, dqF, dq1, dq2, dq3, dq4, dq5] at h80
       refine ol_guard_no rfl rfl rfl rfl (ol_pure rfl (op_pick_f rfl rfl) (ol_nil (pq_then (cw_cond_f rfl (cw_seq (cw_region (ol_pure rfl (op_move rfl) ?_)))))))
       refine ol_pure rfl (op_move rfl) ?_
       refine ol_split (fun h92 => ?_) (fun h92 => ?_)
       ·
        try simp only [dqT, dqF, dq1, dq2, dq3, dq4, dq5] at h92
        refine ol_guard_no rfl rfl rfl rfl (ol_pure rfl (op_pick_t rfl rfl) (ol_nil (pq_then (cw_cond_t rfl (cw_seq ?_)))))
        have hone : kindAt cs1 ((p : Nat) : Int) = 1 ∨ kindAt cs1 ((q : Nat) : Int) = 1 := by rw [hkp, hkq]; omega
        have hnb : ¬ (kindAt cs1 ((p : Nat) : Int) = 1 ∧ kindAt cs1 ((q : Nat) : Int) = 1) := by rw [hkp, hkq]; omega
        rw [if_neg hnb] at hU
        refine cw_region (ol_pure rfl (op_move rfl) (ol_pure rfl (op_move rfl) (ol_pure rfl (op_assign rfl) (ol_pure rfl (op_assign rfl) (ol_nil (pq_then ?_))))))
        refine cw_cut (fun e w => ∃ (f g : Nat), e = [(3, .pointer (some ⟨b3, 0, none⟩)), (6, .pointer (some ⟨b6, 0, none⟩)), (8, .pointer (some ⟨b8, 0, none⟩)), (9, .slice rowb (0 + row2.length) c_rowb), (10, .slice oS l10 cS), (15, .int .i64 (f : Nat)), (16, .int .i64 (g : Nat))] ∧ (f < cs1.length ∧ g < cs1.length) ∧ ((if atB (liveB cs1 [(g : Int)]) (f : Int) = true then none else unif n (bindC cs1 f g) (tr1 ++ [(f : Int)]) row2 seen) = (unif n0 cs tr [(a, b)] [])) ∧ SS G w0 Gc [.row rowb row2.length c_rowb 86 2 (pairsV row2), .row oS l10 cS 86 2 (pairsV seen), .blk b8 28 [.slice oX cs1.length cX, .slice oY tr1.length cY, .int .i64 room], .blk b6 28 [.slice none 0 0, .slice none 0 0, .int .i64 0], .blk b3 28 [.slice oc cs.length cc, .slice ot tr.length ct, .int .i64 room]] w) ?_ ?_
        ·
         refine cw_seq (cw_region (ol_pure rfl (op_move rfl) (ol_nil (pq_then ?_))))
         refine cw_cond rfl (fun h97 => ?_) (fun h97 => ?_)
         ·
          try simp only [dqT, dqF, dq1, dq2, dq3, dq4, dq5] at h97
          refine cw_region (ol_pure rfl (op_move rfl) (ol_pure rfl (op_move rfl) (ol_pure rfl (op_assign rfl) (ol_pure rfl (op_assign rfl) (ol_nil ?_)))))
          first | (exfalso; omega) | refine pq_cut _ (by exact (by first | exact ⟨q, p, rfl, ⟨hql, hpl⟩, by rw [← hU, if_pos (show kindAt cs1 ((q : Nat) : Int) = 1 from by rw [hkq]; assumption)], hS⟩ | exact ⟨p, q, rfl, ⟨hpl, hql⟩, by rw [← hU, if_neg (show ¬ kindAt cs1 ((q : Nat) : Int) = 1 from by rw [hkq]; assumption), if_pos (show kindAt cs1 ((p : Nat) : Int) = 1 from by rw [hkp]; omega)], hS⟩)) ((Sub.cons rfl (Sub.cons rfl (Sub.cons rfl (Sub.cons rfl (Sub.cons rfl (Sub.cons rfl (Sub.cons rfl Sub.nil))))))))
         ·
          try simp only [dqT, dqF, dq1, dq2, dq3, dq4, dq5] at h97
          refine cw_skip ?_
          first | (exfalso; omega) | refine pq_cut _ (by exact (by first | exact ⟨q, p, rfl, ⟨hql, hpl⟩, by rw [← hU, if_pos (show kindAt cs1 ((q : Nat) : Int) = 1 from by rw [hkq]; assumption)], hS⟩ | exact ⟨p, q, rfl, ⟨hpl, hql⟩, by rw [← hU, if_neg (show ¬ kindAt cs1 ((q : Nat) : Int) = 1 from by rw [hkq]; assumption), if_pos (show kindAt cs1 ((p : Nat) : Int) = 1 from by rw [hkp]; omega)], hS⟩)) ((Sub.cons rfl (Sub.cons rfl (Sub.cons rfl (Sub.cons rfl (Sub.cons rfl (Sub.cons rfl (Sub.cons rfl Sub.nil))))))))
        clear hS
        rintro e w ⟨f, g, rfl, hfg, hU2, hS⟩
        refine cw_seq (cw_seq (cw_region (ol_load rfl (op_loadN agg_28 rfl (by rfl) (fun w hw k u hk => (hw.bcell (i := 2) rfl).trans hk)) hS (ol_pure rfl (op_move rfl) ?_))))
        refine ol_step rfl (op_call_fr hS cf_27 rfl (R08_Reach_c _ _ hS.hold _ cs1 tr1 room hhg g hfg.2 hUI.sh (by omega))) ?_
        clear hS
        rintro v102 w ⟨F102, G102, hR102, hF102, hf102, hl102, hS⟩
        obtain ⟨o7, c7, rfl, _, _⟩ := hR102.elimN (liveB_len cs1 [(g : Int)])
        replace hR102 := hR102.mono EBool.mono hf102
        obtain ⟨ho7, hc7⟩ := hR102.bool (i := f) (by rw [liveB_len]; exact hfg.1)
        have hat : (liveB cs1 [(g : Int)])[f]'(by rw [liveB_len]; exact hfg.1) = atB (liveB cs1 [(g : Int)]) (f : Int) := by rw [atB_nat]; simp [liveB_len, hfg.1]
        rw [hat] at hc7
        have hhg2 := hhg.mono hl102
        refine ol_pure rfl (op_move rfl) (ol_pure rfl (op_indexN (n := cs1.length) sl_34 rfl rfl hfg.1 ho7) (ol_load rfl (op_load1 one_4 rfl (fun w hw => hw.gcell hc7)) hS (ol_nil (pq_then ?_))))
        refine cw_cond rfl (fun h105 => ?_) (fun h105 => ?_)
        ·
         try simp only [dqT, dqF, dq1, dq2, dq3, dq4, dq5] at h105
         refine cw_seq (cw_region (ol_load rfl (op_loadN agg_28 rfl (by rfl) (fun w hw k u hk => (hw.bcell (i := 4) rfl).trans hk)) hS ?_))
         refine ol_step0  (op_storeN (j := 3) hS sz_28 rfl rfl rfl rfl rfl (by simp [Value.oneCell'])) ?_
         clear hS
         rintro _ w hS; (try simp only [List.nil_append, List.cons_append, List.set] at hS)
         refine ol_pure rfl (op_assign rfl) (ol_nil (pq_then (cw_ret (pq_ret (pq_in_ret (pq_ret (pq_in_ret ?_)))))))
         refine pq_ret ?_
         refine retN2 rfl agg_28 rfl rfl (by rfl) (fun k u hk => (hS.bcell (i := 3) rfl).trans hk) ?_
         rw [h105] at hU2
         rw [if_pos rfl] at hU2
         exact hS.rt _ ⟨_, by rw [← hU2]; rfl, by rw [← hU2]; exact hh0.mono (hcur.trans hl102)⟩
        ·
         try simp only [dqT, dqF, dq1, dq2, dq3, dq4, dq5] at h105
         rw [h105] at hU2
         simp only [Bool.false_eq_true, if_false] at hU2
         have hnr : ¬ Rc cs1 ((g : Nat) : Int) ((f : Nat) : Int) := fun hh => by
           have := (liveB_iff hUI.sh hfg.1 (roots := [(g : Int)])).2 ⟨_, by simp, by omega, hh⟩
           rw [h105] at this
           cases this
         refine cw_skip (pq_then (cw_region (ol_load rfl (op_loadN agg_28 rfl (by rfl) (fun w hw k u hk => (hw.bcell (i := 2) rfl).trans hk)) hS (ol_pure rfl (op_move rfl) (ol_pure rfl (op_move rfl) ?_)))))
         refine ol_step rfl (op_call_rt hS cf_55 rfl (fun _ => .inr rfl) (heap_mono) (R08_Bind_c _ _ hS.hold _ cs1 tr1 room hhg2 (f : Int) (g : Int) (by omega) (by omega) (by omega) (by omega) (by omega) (by omega))) ?_
         clear hS
         rintro v110 w ⟨G110, hl110, hR110, hS⟩
         obtain ⟨oP, cP, oQ, cQ, rfl, hCb, hTb⟩ := hR110
         refine ol_step0  (op_storeN (j := 2) hS sz_28 rfl rfl rfl rfl rfl (by simp [Value.oneCell'])) ?_
         clear hS
         rintro _ w hS; (try simp only [List.nil_append, List.cons_append, List.set] at hS)
         refine ol_nil (pq_in_normal ?_)
         refine pq_loop _ _ (by exact ⟨G110, _, _, row2, seen, oP, oQ, cP, cQ, rowb, _, c_rowb, oS, _, cS, rfl, Nat.zero_add _, hl10, (hcur.trans hl102).trans hl110, hU2, hUI.skip.bind (x := (f : Int)) (y := (g : Int)) (by omega) (by omega) (by omega) (by omega) hnr, by simp only [List.length_append, List.length_cons, List.length_nil]; omega, hCb, hTb, by rw [Nat.zero_add]; exact hS⟩) ((Sub.cons rfl (Sub.cons rfl (Sub.cons rfl (Sub.cons rfl (Sub.cons rfl Sub.nil)))))) (by omega)
       ·
        try simp only [dqT, dqF, dq1, dq2, dq3, dq4, dq5] at h92
        refine ol_guard_pure rfl rfl rfl (op_move rfl) (ol_pure rfl (op_pick_f rfl rfl) (ol_nil (pq_then ?_)))
        refine cw_cond rfl (fun h94 => ?_) (fun h94 => ?_)
        ·
         try simp only [dqT, dqF, dq1, dq2, dq3, dq4, dq5] at h94
         refine cw_seq ?_
         have hone : kindAt cs1 ((p : Nat) : Int) = 1 ∨ kindAt cs1 ((q : Nat) : Int) = 1 := by rw [hkp, hkq]; omega
         have hnb : ¬ (kindAt cs1 ((p : Nat) : Int) = 1 ∧ kindAt cs1 ((q : Nat) : Int) = 1) := by rw [hkp, hkq]; omega
         rw [if_neg hnb] at hU
         refine cw_region (ol_pure rfl (op_move rfl) (ol_pure rfl (op_move rfl) (ol_pure rfl (op_assign rfl) (ol_pure rfl (op_assign rfl) (ol_nil (pq_then ?_))))))
         refine cw_cut (fun e w => ∃ (f g : Nat), e = [(3, .pointer (some ⟨b3, 0, none⟩)), (6, .pointer (some ⟨b6, 0, none⟩)), (8, .pointer (some ⟨b8, 0, none⟩)), (9, .slice rowb (0 + row2.length) c_rowb), (10, .slice oS l10 cS), (15, .int .i64 (f : Nat)), (16, .int .i64 (g : Nat))] ∧ (f < cs1.length ∧ g < cs1.length) ∧ ((if atB (liveB cs1 [(g : Int)]) (f : Int) = true then none else unif n (bindC cs1 f g) (tr1 ++ [(f : Int)]) row2 seen) = (unif n0 cs tr [(a, b)] [])) ∧ SS G w0 Gc [.row rowb row2.length c_rowb 86 2 (pairsV row2), .row oS l10 cS 86 2 (pairsV seen), .blk b8 28 [.slice oX cs1.length cX, .slice oY tr1.length cY, .int .i64 room], .blk b6 28 [.slice none 0 0, .slice none 0 0, .int .i64 0], .blk b3 28 [.slice oc cs.length cc, .slice ot tr.length ct, .int .i64 room]] w) ?_ ?_
         ·
          refine cw_seq (cw_region (ol_pure rfl (op_move rfl) (ol_nil (pq_then ?_))))
          refine cw_cond rfl (fun h97 => ?_) (fun h97 => ?_)
          ·
           try simp only [dqT, dqF, dq1, dq2, dq3, dq4, dq5] at h97
           refine cw_region (ol_pure rfl (op_move rfl) (ol_pure rfl (op_move rfl) (ol_pure rfl (op_assign rfl) (ol_pure rfl (op_assign rfl) (ol_nil ?_)))))
           first | (exfalso; omega) | refine pq_cut _ (by exact (by first | exact ⟨q, p, rfl, ⟨hql, hpl⟩, by rw [← hU, if_pos (show kindAt cs1 ((q : Nat) : Int) = 1 from by rw [hkq]; assumption)], hS⟩ | exact ⟨p, q, rfl, ⟨hpl, hql⟩, by rw [← hU, if_neg (show ¬ kindAt cs1 ((q : Nat) : Int) = 1 from by rw [hkq]; assumption), if_pos (show kindAt cs1 ((p : Nat) : Int) = 1 from by rw [hkp]; omega)], hS⟩)) ((Sub.cons rfl (Sub.cons rfl (Sub.cons rfl (Sub.cons rfl (Sub.cons rfl (Sub.cons rfl (Sub.cons rfl Sub.nil))))))))
          ·
           try simp only [dqT, dqF, dq1, dq2, dq3, dq4, dq5] at h97
           refine cw_skip ?_
           first | (exfalso; omega) | refine pq_cut _ (by exact (by first | exact ⟨q, p, rfl, ⟨hql, hpl⟩, by rw [← hU, if_pos (show kindAt cs1 ((q : Nat) : Int) = 1 from by rw [hkq]; assumption)], hS⟩ | exact ⟨p, q, rfl, ⟨hpl, hql⟩, by rw [← hU, if_neg (show ¬ kindAt cs1 ((q : Nat) : Int) = 1 from by rw [hkq]; assumption), if_pos (show kindAt cs1 ((p : Nat) : Int) = 1 from by rw [hkp]; omega)], hS⟩)) ((Sub.cons rfl (Sub.cons rfl (Sub.cons rfl (Sub.cons rfl (Sub.cons rfl (Sub.cons rfl (Sub.cons rfl Sub.nil))))))))
         clear hS
         rintro e w ⟨f, g, rfl, hfg, hU2, hS⟩
         refine cw_seq (cw_seq (cw_region (ol_load rfl (op_loadN agg_28 rfl (by rfl) (fun w hw k u hk => (hw.bcell (i := 2) rfl).trans hk)) hS (ol_pure rfl (op_move rfl) ?_))))
         refine ol_step rfl (op_call_fr hS cf_27 rfl (R08_Reach_c _ _ hS.hold _ cs1 tr1 room hhg g hfg.2 hUI.sh (by omega))) ?_
         clear hS
         rintro v102 w ⟨F102, G102, hR102, hF102, hf102, hl102, hS⟩
         obtain ⟨o7, c7, rfl, _, _⟩ := hR102.elimN (liveB_len cs1 [(g : Int)])
         replace hR102 := hR102.mono EBool.mono hf102
         obtain ⟨ho7, hc7⟩ := hR102.bool (i := f) (by rw [liveB_len]; exact hfg.1)
         have hat : (liveB cs1 [(g : Int)])[f]'(by rw [liveB_len]; exact hfg.1) = atB (liveB cs1 [(g : Int)]) (f : Int) := by rw [atB_nat]; simp [liveB_len, hfg.1]
         rw [hat] at hc7
         have hhg2 := hhg.mono hl102
         refine ol_pure rfl (op_move rfl) (ol_pure rfl (op_indexN (n := cs1.length) sl_34 rfl rfl hfg.1 ho7) (ol_load rfl (op_load1 one_4 rfl (fun w hw => hw.gcell hc7)) hS (ol_nil (pq_then ?_))))
         refine cw_cond rfl (fun h105 => ?_) (fun h105 => ?_)
         ·
          try simp only [dqT, dqF, dq1, dq2, dq3, dq4, dq5] at h105
          refine cw_seq (cw_region (ol_load rfl (op_loadN agg_28 rfl (by rfl) (fun w hw k u hk => (hw.bcell (i := 4) rfl).trans hk)) hS ?_))
          refine ol_step0  (op_storeN (j := 3) hS sz_28 rfl rfl rfl rfl rfl (by simp [Value.oneCell'])) ?_
          clear hS
          rintro _ w hS; (try simp only [List.nil_append, List.cons_append, List.set] at hS)
          refine ol_pure rfl (op_assign rfl) (ol_nil (pq_then (cw_ret (pq_ret (pq_in_ret (pq_ret (pq_in_ret ?_)))))))
          refine pq_ret ?_
          refine retN2 rfl agg_28 rfl rfl (by rfl) (fun k u hk => (hS.bcell (i := 3) rfl).trans hk) ?_
          rw [h105] at hU2
          rw [if_pos rfl] at hU2
          exact hS.rt _ ⟨_, by rw [← hU2]; rfl, by rw [← hU2]; exact hh0.mono (hcur.trans hl102)⟩
         ·
          try simp only [dqT, dqF, dq1, dq2, dq3, dq4, dq5] at h105
          rw [h105] at hU2
          simp only [Bool.false_eq_true, if_false] at hU2
          have hnr : ¬ Rc cs1 ((g : Nat) : Int) ((f : Nat) : Int) := fun hh => by
            have := (liveB_iff hUI.sh hfg.1 (roots := [(g : Int)])).2 ⟨_, by simp, by omega, hh⟩
            rw [h105] at this
            cases this
          refine cw_skip (pq_then (cw_region (ol_load rfl (op_loadN agg_28 rfl (by rfl) (fun w hw k u hk => (hw.bcell (i := 2) rfl).trans hk)) hS (ol_pure rfl (op_move rfl) (ol_pure rfl (op_move rfl) ?_)))))
          refine ol_step rfl (op_call_rt hS cf_55 rfl (fun _ => .inr rfl) (heap_mono) (R08_Bind_c _ _ hS.hold _ cs1 tr1 room hhg2 (f : Int) (g : Int) (by omega) (by omega) (by omega) (by omega) (by omega) (by omega))) ?_
          clear hS
          rintro v110 w ⟨G110, hl110, hR110, hS⟩
          obtain ⟨oP, cP, oQ, cQ, rfl, hCb, hTb⟩ := hR110
          refine ol_step0  (op_storeN (j := 2) hS sz_28 rfl rfl rfl rfl rfl (by simp [Value.oneCell'])) ?_
          clear hS
          rintro _ w hS; (try simp only [List.nil_append, List.cons_append, List.set] at hS)
          refine ol_nil (pq_in_normal ?_)
          refine pq_loop _ _ (by exact ⟨G110, _, _, row2, seen, oP, oQ, cP, cQ, rowb, _, c_rowb, oS, _, cS, rfl, Nat.zero_add _, hl10, (hcur.trans hl102).trans hl110, hU2, hUI.skip.bind (x := (f : Int)) (y := (g : Int)) (by omega) (by omega) (by omega) (by omega) hnr, by simp only [List.length_append, List.length_cons, List.length_nil]; omega, hCb, hTb, by rw [Nat.zero_add]; exact hS⟩) ((Sub.cons rfl (Sub.cons rfl (Sub.cons rfl (Sub.cons rfl (Sub.cons rfl Sub.nil)))))) (by omega)
        ·
         try simp only [dqT, dqF, dq1, dq2, dq3, dq4, dq5] at h94
         refine cw_seq ?_
         have hnp : ¬ kindAt cs1 ((p : Nat) : Int) = 1 := by rw [hkp]; omega
         have hnq : ¬ kindAt cs1 ((q : Nat) : Int) = 1 := by rw [hkq]; omega
         rw [if_neg (fun hh => hnp hh.1), if_neg hnq, if_neg hnp, hap, haq] at hU
         refine cw_region (ol_load rfl (op_loadN agg_28 rfl (by rfl) (fun w hw k u hk => (hw.bcell (i := 2) rfl).trans hk)) hS (ol_pure rfl (op_move rfl) (ol_pure rfl (op_move rfl) ?_)))
         refine ol_step rfl (op_call cf_56 rfl (R08_pairs_c hS _ cs1 tr1 room hhg p q hpl hql hUI.sh (by omega))) ?_
         clear hS
         rintro _ w ⟨oM, cM, L, hL, rfl, hS⟩
         refine ol_pure rfl (op_move rfl) (ol_pure rfl (op_extract (vs := [.slice oM L.length cM, .bool (sameC cs1[p] cs1[q])]) rfl rfl) (ol_pure rfl (op_extract (vs := [.slice oM L.length cM, .bool (sameC cs1[p] cs1[q])]) rfl rfl) (ol_pure rfl (op_assign rfl) (ol_pure rfl (op_assign rfl) (ol_nil (pq_then (cw_seq ?_)))))))
         refine cw_seq (cw_region (ol_pure rfl (op_move rfl) (ol_pure rfl (op_not rfl) (ol_nil (pq_then ?_)))))
         refine cw_cond rfl (fun h119 => ?_) (fun h119 => ?_)
         ·
          try simp only [dqT, dqF, dq1, dq2, dq3, dq4, dq5] at h119
          refine cw_seq (cw_region (ol_load rfl (op_loadN agg_28 rfl (by rfl) (fun w hw k u hk => (hw.bcell (i := 5) rfl).trans hk)) hS ?_))
          refine ol_step0  (op_storeN (j := 4) hS sz_28 rfl rfl rfl rfl rfl (by simp [Value.oneCell'])) ?_
          clear hS
          rintro _ w hS; (try simp only [List.nil_append, List.cons_append, List.set] at hS)
          refine ol_pure rfl (op_assign rfl) (ol_nil (pq_then (cw_ret (pq_ret (pq_in_ret (pq_ret (pq_in_ret ?_)))))))
          refine pq_ret ?_
          refine retN2 rfl agg_28 rfl rfl (by rfl) (fun k u hk => (hS.bcell (i := 4) rfl).trans hk) ?_
          have hsm : sameC cs1[p] cs1[q] = false := h119
          rw [hsm, if_neg (by decide)] at hU
          exact hS.rt _ ⟨_, by rw [← hU]; rfl, by rw [← hU]; exact hh0.mono hcur⟩
         ·
          try simp only [dqT, dqF, dq1, dq2, dq3, dq4, dq5] at h119
          refine cw_skip (pq_then (cw_seq ?_))
          have hsm : sameC cs1[p] cs1[q] = true := h119
          rw [if_pos hsm] at hU hL
          have hnm : (((p : Nat) : Int), ((q : Nat) : Int)) ∉ seen := fun hh => hne (.inr hh)
          have hUm := hUI.more (x := (p : Int)) (y := (q : Int)) (by omega) (by omega) (by omega) (by omega) (by rw [hap, haq]; exact hsm) hnm
          rw [← hL] at hU hUm
          have hmf := hUm.fuel
          simp only [List.length_append] at hmf
          refine cw_region (ol_pure rfl (op_move rfl) (ol_pure rfl (op_move rfl) (ol_pure rfl (op_move rfl) (ol_pure rfl (op_build (is := [0, 1]) (xs := [.tmp 122, .tmp 123]) (v := .agg #[.int .i64 (p : Nat), .int .i64 (q : Nat)]) rfl rfl (fun w => by kernel_rfl)) ?_))))
          refine ol_step rfl (op_buildSlice (el := 86) (is := [0]) (xs := [.tmp 124]) (sz := 2) (cs := [.int .i64 (p : Nat), .int .i64 (q : Nat)]) hS rfl rfl (fun w => by kernel_rfl) rfl (by decide)) ?_
          clear hS
          rintro _ w ⟨s125, rfl, hS⟩
          refine ol_step rfl (op_append (j := 3) hS sl_87 el_86 rfl rfl rfl rfl rfl rfl (by decide) (hS.news (j := 0) rfl) (by simp [Value.oneCell']) (by omega) (by unfold maxLen; omega)) ?_
          clear hS
          rintro _ w ⟨oz, c_oz, rfl, hS⟩; (try simp only [List.nil_append, List.cons_append, List.set] at hS); replace hS := SS.drop [] hS; (try simp only [List.nil_append, List.cons_append] at hS)
          refine ol_pure rfl (op_assign rfl) (ol_nil (pq_then (cw_seq (cw_region (ol_pure rfl (op_move rfl) (ol_pure rfl (op_move rfl) ?_))))))
          refine ol_step rfl (op_append (j := 0) (m := 0 + row2.length) hS sl_87 el_86 rfl rfl rfl rfl rfl (by rw [pairsV_len, Nat.zero_add]) (by decide) (hS.news (j := 1) rfl) (ones_p row2) (by omega) (by unfold maxLen; omega)) ?_
          clear hS
          rintro _ w ⟨oy, c_oy, rfl, hS⟩; (try simp only [List.nil_append, List.cons_append, List.set] at hS); replace hS := SS.drop [_] hS; (try simp only [List.nil_append, List.cons_append] at hS)
          refine ol_pure rfl (op_assign rfl) (ol_nil (pq_then (cw_region (ol_pure rfl (op_move rfl) (ol_pure rfl (op_assign rfl) (ol_nil (pq_in_normal ?_)))))))
          refine pq_loop _ _ (by exact ⟨Gc, cs1, tr1, L ++ row2, seen ++ [((p : Int), (q : Int))], oX, oY, cX, cY, oy, L.length + (0 + row2.length), c_oy, oz, l10 + 1, c_oz, rfl, by rw [List.length_append, Nat.zero_add], by simp [hl10], hcur, hU, hUm, by omega, hCc, hTt, by rw [pairsV_app, pairsV_app]; exact hS⟩) ((Sub.cons rfl (Sub.cons rfl (Sub.cons rfl (Sub.cons rfl (Sub.cons rfl Sub.nil)))))) (by omega)
   ·
    try simp only [dqT, dqF, dq1, dq2, dq3, dq4, dq5] at h38
    refine cw_exit (pq_exit (pq_exit (pq_in_exit (pq_then (cw_seq (cw_region (ol_load rfl (op_loadN agg_28 rfl (by rfl) (fun w hw k u hk => (hw.bcell (i := 2) rfl).trans hk)) hS ?_)))))))
    refine ol_step0  (op_storeN (j := 3) hS sz_28 rfl rfl rfl rfl rfl (by simp [Value.oneCell'])) ?_
    clear hS
    rintro _ w hS; (try simp only [List.nil_append, List.cons_append, List.set] at hS)
    refine ol_pure rfl (op_assign rfl) (ol_nil (pq_then (cw_ret ?_)))
    refine retN2 rfl agg_28 rfl rfl (by rfl) (fun k u hk => (hS.bcell (i := 3) rfl).trans hk) ?_
    have hr0 : row = [] := List.eq_nil_of_length_eq_zero (by omega)
    subst hr0
    rw [unif_nil] at hU
    exact hS.rt _ ⟨_, by rw [← hU]; rfl, by rw [← hU]; exact ⟨_, _, _, _, rfl, hCc, hTt⟩⟩
end Go.Proofs.Ytnmkffkalnkbbaa.K
