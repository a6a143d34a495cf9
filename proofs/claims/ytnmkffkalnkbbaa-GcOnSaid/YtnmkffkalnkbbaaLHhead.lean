/-
  The calls of layer 9 whose answers the document fixes.
  No condition but the premises that each theorem names.
-/
import Derived.Test.YtnmkffkalnkbbaaHpb
namespace Go.Proofs.Ytnmkffkalnkbbaa.K
open Go Go.RowKit
set_option linter.unusedVariables false
set_option linter.unusedSimpArgs false

open Pl
def TF : List Cell := [⟨3, ⟨#[102]⟩, 1⟩, ⟨2, ByteArray.empty, 7⟩]
def TG : List Cell := [⟨3, ⟨#[103]⟩, 1⟩, ⟨1, ByteArray.empty, 0⟩]
def HA : List Cell := [⟨4, ⟨#[102]⟩, 1⟩, ⟨2, ByteArray.empty, 7⟩]
def HK : List Cell := [⟨4, ⟨#[102]⟩, 1⟩, ⟨2, ByteArray.empty, 7⟩, ⟨4, ⟨#[103]⟩, 1⟩, ⟨1, ByteArray.empty, 3⟩]
def HM : List Cell := [⟨4, ⟨#[102]⟩, 1⟩, ⟨2, ByteArray.empty, 7⟩, ⟨4, ⟨#[103]⟩, 1⟩, ⟨1, ByteArray.empty, 0⟩]
def HC : List Cell := [⟨4, ⟨#[103]⟩, 1⟩, ⟨1, ByteArray.empty, 1⟩]
def MB : List Mk := [⟨4, 0, [2]⟩]
theorem isTF : isT TF := by unfold isT; decide +kernel
theorem isTG : isT TG := by unfold isT; decide +kernel
theorem put1 : putI TF ([], []) = (0, (HA, [])) := by kernel_rfl
theorem put2 : putI TG (HA, []) = (2, (HK, [3])) := by kernel_rfl
theorem uni : unif (7 * (HK.length * HK.length) + 1) HK [] [(3, 0)] [] = some (HM, [3]) := by kernel_rfl
theorem c1c : cellsM (movedI (liveB HK (allI [2, 9, -1] []))) HK = HC := by kernel_rfl
theorem c1t : trailM (movedI (liveB HK (allI [2, 9, -1] []))) [] = [] := by kernel_rfl
theorem c1r : toI (movedI (liveB HK (allI [2, 9, -1] []))) [2, 9, -1] = [0, -1, -1] := by kernel_rfl
theorem c2c : cellsM (movedI (liveB HK (allI [] []))) HK = [] := by kernel_rfl
theorem c3c : cellsM (movedI (liveB HM (allI [2] MB))) HM = HM := by kernel_rfl
theorem c3t : trailM (movedI (liveB HM (allI [2] MB))) [3] = [3] := by kernel_rfl
theorem c3r : toI (movedI (liveB HM (allI [2] MB))) [2] = [2] := by kernel_rfl
theorem c3m : MB.map (markM (movedI (liveB HM (allI [2] MB))) [3]) = MB := by kernel_rfl
theorem liv : liveB HK [2] = [false, false, true, true] := by kernel_rfl
theorem mov : movedI (liveB HK (allI [2] [])) = [-1, -1, 0, 1] := by kernel_rfl
theorem ok1 : PutOk [] 2 (0, (HA, [])) := by
  have h := putI_ok (cs := []) (at_ := []) (t := TF) MadeI.start.ok.slots MadeI.start.ok.rank (by simp) (by simp) isTF
  rw [put1] at h
  exact h
theorem ok2 : PutOk HA 2 (2, (HK, [3])) := by
  have h := putI_ok (cs := HA) (at_ := []) (t := TG) ok1.slr ok1.rk (by simp) (by simp) isTG
  rw [put2] at h
  exact h
theorem okK : HpOk HK [] := ⟨ok2.slr, ok2.rk, by simp, List.nodup_nil⟩
theorem uiK : UI HK.length (7 * (HK.length * HK.length) + 1) HK [(3, 0)] [] := UI.start okK (by decide) (by decide)
theorem okM : HpOk HM [3] := by
  obtain ⟨news, hu⟩ := unif_ur _ HK [] [] _ _ HM [3] (UR.refl okK) uiK uni
  exact hu.ok
theorem bdAll {l : List Cell} (h : l = TF ∨ l = TG ∨ l = HC) : ∀ c ∈ l, CellBd c := by
  have key : ∀ l ∈ [TF, TG, HC], ∀ c ∈ l, (-9223372036854775808 ≤ c.kind ∧ c.kind ≤ 9223372036854775807) ∧ (-9223372036854775808 ≤ c.n ∧ c.n ≤ 9223372036854775807) ∧ c.name.size ≤ 9223372036854775807 := by decide +kernel
  exact key l (by rcases h with rfl | rfl | rfl <;> simp)
def ColX (room : Int) (C : List Cell) (T R : List Int) (Ms : List Mk) (G : GH) (v : Value) : Prop := ∃ oc cc ot ct oR cR oM cM, v = .tuple #[.agg #[.slice oc C.length cc, .slice ot T.length ct, .int .i64 room], .slice oR R.length cR, .slice oM Ms.length cM] ∧ RSl 3 ECell G (.slice oc C.length cc) C ∧ RSl 1 EInt G (.slice ot T.length ct) T ∧ RSl 1 EInt G (.slice oR R.length cR) R ∧ RSl 3 EMk G (.slice oM Ms.length cM) Ms
theorem colX {to tr roots : List Int} {cs : List Cell} {ms : List Mk} {room : Int} {C : List Cell} {T R : List Int} {Ms : List Mk} {G : GH} {v : Value} (h : ColR to tr roots cs ms room G v) (e1 : cellsM to cs = C) (e2 : trailM to tr = T) (e3 : toI to roots = R) (e4 : ms.map (markM to tr) = Ms) : ColX room C T R Ms G v := by
  obtain ⟨hv, vr, vm, rfl, ⟨oc, cc, ot, ct, rfl, h1, h2⟩, h3, h4⟩ := h
  subst e1
  subst e2
  subst e3
  subst e4
  obtain ⟨oR, cR, rfl, _, _⟩ := h3.elim
  obtain ⟨oM, cM, rfl, _, _⟩ := h4.elim
  exact ⟨oc, cc, ot, ct, oR, cR, oM, cM, rfl, h1, h2, h3, h4⟩
theorem ints_t {G : GH} {w0 : World} (hG : Holds G w0) {v u : Value} {l : List Int} (h1 : RSl 1 EInt G v l) (h2 : RSl 1 EInt G u l) : Calls Try.prog 19 #[v, u] w0 (Sc w0 (.bool true)) := by
  have h := R08_Ints_c G w0 hG v u l l h1 h2
  rwa [decide_eq_true rfl] at h
theorem heap_ {G : GH} {oc ot : Option Addr} {n cc m ct : Nat} {C : List Cell} {T : List Int} {room : Int} (h1 : RSl 3 ECell G (.slice oc n cc) C) (h2 : RSl 1 EInt G (.slice ot m ct) T) : EHeap G (.agg #[.slice oc n cc, .slice ot m ct, .int .i64 room]) C T room := by
  obtain ⟨oc', cc', e1, _, _⟩ := h1.elim
  obtain ⟨ot', ct', e2, _, _⟩ := h2.elim
  obtain ⟨rfl, rfl, rfl⟩ : oc = oc' ∧ n = C.length ∧ cc = cc' := by simpa using e1
  obtain ⟨rfl, rfl, rfl⟩ : ot = ot' ∧ m = T.length ∧ ct = ct' := by simpa using e2
  exact ⟨_, _, _, _, rfl, h1, h2⟩

set_option maxRecDepth 100000 in
set_option maxHeartbeats 8000000 in

theorem L09_head_c (G : GH) (w0 : World) (hG : Holds G w0)  :
   Calls Try.prog 11 #[] w0 (Sc w0 (.bool true)) := by
 refine enter Try.func11 rfl (N := 192) rfl (Nat.le_of_ble_eq_true rfl) ?_
 have hS := SS.init hG
 refine cw_seq (cw_region (ol_pure rfl (op_assign rfl) (ol_nil (pq_then (cw_seq (cw_region (ol_pure rfl (op_build (is := [0, 1, 2]) (xs := [.const (.int .i64 (3)), .const (_), .const (.int .i64 (1))]) (v := .agg #[.int .i64 3, .string ⟨#[102]⟩, .int .i64 1]) rfl rfl (fun w => by kernel_rfl)) ?_)))))))
 refine ol_pure rfl (op_build (is := [0, 2]) (xs := [.const (.int .i64 (2)), .const (.int .i64 (7))]) (v := .agg #[.int .i64 2, .string ByteArray.empty, .int .i64 7]) rfl rfl (fun w => by kernel_rfl)) ?_
 refine ol_step rfl (op_buildSlice (el := 58) (is := [0, 1]) (xs := [.tmp 24, .tmp 25]) (sz := 3) (cs := [.int .i64 3, .string ⟨#[102]⟩, .int .i64 1, .int .i64 2, .string ByteArray.empty, .int .i64 7]) hS rfl rfl (fun w => by kernel_rfl) rfl (by decide)) ?_
 clear hS
 rintro _ w ⟨s26, rfl, hS⟩
 obtain ⟨G26, hl26, hS26, hF⟩ := SS.give' (TF : List Cell) [] ECell.mono hS (by decide) (by exact Rows.cells (bdAll (.inl rfl))) rfl
 clear hS
 have hS := hS26
 clear hS26
 (try simp only [List.nil_append, List.cons_append] at hS)
 
 (try replace hcur := hcur.trans hl26)
 refine ol_pure rfl (op_assign rfl) (ol_nil (pq_then (cw_seq (cw_region (ol_pure rfl (op_build (is := [0, 1, 2]) (xs := [.const (.int .i64 (3)), .const (_), .const (.int .i64 (1))]) (v := .agg #[.int .i64 3, .string ⟨#[103]⟩, .int .i64 1]) rfl rfl (fun w => by kernel_rfl)) (ol_pure rfl (op_build (is := [0]) (xs := [.const (.int .i64 (1))]) (v := .agg #[.int .i64 1, .string ByteArray.empty, .int .i64 0]) rfl rfl (fun w => by kernel_rfl)) ?_))))))
 refine ol_step rfl (op_buildSlice (el := 58) (is := [0, 1]) (xs := [.tmp 27, .tmp 28]) (sz := 3) (cs := [.int .i64 3, .string ⟨#[103]⟩, .int .i64 1, .int .i64 1, .string ByteArray.empty, .int .i64 0]) hS rfl rfl (fun w => by kernel_rfl) rfl (by decide)) ?_
 clear hS
 rintro _ w ⟨s29, rfl, hS⟩
 obtain ⟨G29, hl29, hS29, hG2⟩ := SS.give' (TG : List Cell) [] ECell.mono hS (by decide) (by exact Rows.cells (bdAll (.inr (.inl rfl)))) rfl
 clear hS
 have hS := hS29
 clear hS29
 (try simp only [List.nil_append, List.cons_append] at hS)
 (try replace hF := hF.mono ECell.mono hl29)
 (try replace hcur := hcur.trans hl29)
 refine ol_pure rfl (op_assign rfl) (ol_nil (pq_then (cw_seq (cw_region ?_))))
 refine ol_step rfl (op_call_sc hS cf_29 rfl (R08_New_c _ _ hS.hold 9 (by decide) (by decide))) ?_
 clear hS
 rintro _ w ⟨rfl, hS⟩
 refine ol_pure rfl (op_move rfl) ?_
 refine ol_step rfl (op_call_rt hS cf_28 rfl (fun _ => .inr rfl) (PutR.mono) (R08_Put_c _ _ hS.hold _ [] [] 9 (heap_ (RSl.nil _) (RSl.nil _)) _ TF hF _ [] (RSl.nil _) MadeI.start.ok.slots MadeI.start.ok.rank (by simp) (by simp) isTF (by decide) (by decide) (by decide) (by decide))) ?_
 clear hS
 rintro v33 w ⟨G33, hl33, hR33, hS⟩
 rw [put1] at hR33
 obtain ⟨hva, vaa, rfl, ⟨oca, cca, ota, cta, rfl, hCa, hTa⟩, hAa⟩ := hR33
 obtain ⟨oAa, cAa, rfl, _, _⟩ := hAa.elimN (n := 0) rfl
 simp only at hCa hTa hAa
 (try replace hF := hF.mono ECell.mono hl33)
 (try replace hG2 := hG2.mono ECell.mono hl33)
 (try replace hcur := hcur.trans hl33)
 refine ol_pure rfl (op_move rfl) (ol_pure rfl (op_extract (vs := [.agg #[.slice oca 2 cca, .slice ota 0 cta, .int .i64 9], .int .i64 0, .slice oAa 0 cAa, .int .i64 0]) rfl rfl) (ol_pure rfl (op_extract (vs := [.agg #[.slice oca 2 cca, .slice ota 0 cta, .int .i64 9], .int .i64 0, .slice oAa 0 cAa, .int .i64 0]) rfl rfl) (ol_pure rfl (op_extract (vs := [.agg #[.slice oca 2 cca, .slice ota 0 cta, .int .i64 9], .int .i64 0, .slice oAa 0 cAa, .int .i64 0]) rfl rfl) (ol_pure rfl (op_extract (vs := [.agg #[.slice oca 2 cca, .slice ota 0 cta, .int .i64 9], .int .i64 0, .slice oAa 0 cAa, .int .i64 0]) rfl rfl) ?_))))
 refine ol_step rfl (op_alloc hS el_28 rfl) ?_
 clear hS
 rintro _ w ⟨b3, rfl, hS⟩
 refine ol_step0  (op_storeN (j := 0) hS sz_28 rfl rfl rfl rfl rfl (by simp [Value.oneCell'])) ?_
 clear hS
 rintro _ w hS; (try simp only [List.nil_append, List.cons_append, List.set] at hS)
 refine ol_pure rfl (op_assign rfl) (ol_pure rfl (op_assign rfl) (ol_pure rfl (op_assign rfl) (ol_nil (pq_then (cw_seq (cw_region (ol_load rfl (op_loadN agg_28 rfl (by rfl) (fun w hw k u hk => (hw.bcell (i := 0) rfl).trans hk)) hS ?_)))))))
 refine ol_pure rfl (op_move rfl) ?_
 refine ol_step rfl (op_call_rt hS cf_28 rfl (fun _ => .inr rfl) (PutR.mono) (R08_Put_c _ _ hS.hold _ HA [] 9 (heap_ hCa hTa) _ TG hG2 _ [] (RSl.nil _) ok1.slr ok1.rk (by simp) (by simp) isTG (by decide) (by decide) (by decide) (by decide))) ?_
 clear hS
 rintro v41 w ⟨G41, hl41, hR41, hS⟩
 rw [put2] at hR41
 obtain ⟨hvk, vak, rfl, ⟨ock, cck, otk, ctk, rfl, hCk, hTk⟩, hAk⟩ := hR41
 obtain ⟨oAk, cAk, rfl, _, _⟩ := hAk.elimN (n := 1) rfl
 simp only at hCk hTk hAk
 (try replace hF := hF.mono ECell.mono hl41)
 (try replace hG2 := hG2.mono ECell.mono hl41)
 (try replace hCa := hCa.mono ECell.mono hl41)
 (try replace hTa := hTa.mono EInt.mono hl41)
 (try replace hAa := hAa.mono EInt.mono hl41)
 (try replace hcur := hcur.trans hl41)
 refine ol_pure rfl (op_move rfl) (ol_pure rfl (op_extract (vs := [.agg #[.slice ock 4 cck, .slice otk 0 ctk, .int .i64 9], .int .i64 2, .slice oAk 1 cAk, .int .i64 0]) rfl rfl) (ol_pure rfl (op_extract (vs := [.agg #[.slice ock 4 cck, .slice otk 0 ctk, .int .i64 9], .int .i64 2, .slice oAk 1 cAk, .int .i64 0]) rfl rfl) (ol_pure rfl (op_extract (vs := [.agg #[.slice ock 4 cck, .slice otk 0 ctk, .int .i64 9], .int .i64 2, .slice oAk 1 cAk, .int .i64 0]) rfl rfl) (ol_pure rfl (op_extract (vs := [.agg #[.slice ock 4 cck, .slice otk 0 ctk, .int .i64 9], .int .i64 2, .slice oAk 1 cAk, .int .i64 0]) rfl rfl) ?_))))
 refine ol_step rfl (op_alloc hS el_28 rfl) ?_
 clear hS
 rintro _ w ⟨b7, rfl, hS⟩
 refine ol_step0  (op_storeN (j := 0) hS sz_28 rfl rfl rfl rfl rfl (by simp [Value.oneCell'])) ?_
 clear hS
 rintro _ w hS; (try simp only [List.nil_append, List.cons_append, List.set] at hS)
 refine ol_pure rfl (op_assign rfl) (ol_pure rfl (op_assign rfl) (ol_pure rfl (op_assign rfl) (ol_nil (pq_then (cw_seq ?_)))))
 have hcur := Le.refl G41
 obtain ⟨hoAk, hcAk, _⟩ := hAk.int (i := 0) (by decide)
 refine al_start' hS (hS.take 1) (by kernel_rfl) rfl (fun w hS hT => ?_)
 refine al_load (i := 0) rfl (by kernel_rfl) (by kernel_rfl) (by kernel_rfl) rfl (fun _ _ _ h => h) (by exact op_loadN agg_28 rfl (by rfl) (fun w hw k u hk => (hw.bcell (i := 0) rfl).trans hk)) rfl hT (al_take (i := 1) rfl (by kernel_rfl) (by kernel_rfl) (by kernel_rfl) rfl (fun _ _ _ h => h) (op_move rfl) rfl (al_take (i := 2) rfl (by kernel_rfl) (by kernel_rfl) (by kernel_rfl) rfl (fun _ _ _ h => h) (op_indexN (i := 0) sl_26 rfl rfl (by decide) hoAk) rfl (al_load (i := 3) rfl (by kernel_rfl) (by kernel_rfl) (by kernel_rfl) rfl (fun _ _ _ h => h) (by exact op_load1 one_3 rfl (fun w hw => hw.gcell hcAk)) rfl hT (al_take (i := 4) rfl (by kernel_rfl) (by kernel_rfl) (by kernel_rfl) rfl (fun _ _ _ h => h) (op_move rfl) rfl ?_))))
 refine al_meet (fuel2 := 0) (ds2 := [11, 10, 9, 8, 7, 6, 5, 4, 3, 2, 1, 0]) (fun e w => ∃ (G52 : GH) (b11 : Nat) (ocm otm : Option Addr) (ccm ctm : Nat), e = [(3, .pointer (some ⟨b3, 0, none⟩)), (4, .int .i64 0), (7, .pointer (some ⟨b7, 0, none⟩)), (8, .int .i64 2), (9, .slice oAk 1 cAk), (11, .pointer (some ⟨b11, 0, none⟩)), (12, .bool true)] ∧ Le G41 G52 ∧ RSl 3 ECell G52 (.slice ocm 4 ccm) HM ∧ RSl 1 EInt G52 (.slice otm 1 ctm) [3] ∧ SS G w0 G52 [.blk b11 28 [.slice ocm 4 ccm, .slice otm 1 ctm, .int .i64 9], .blk b7 28 [.slice ock 4 cck, .slice otk 0 ctk, .int .i64 9], .blk b3 28 [.slice oca 2 cca, .slice ota 0 cta, .int .i64 9]] w) (fun K5 => ?_) ?_
 ·
  refine al_two (i := 5) (j := 9) (by kernel_rfl) (fun a ha => ?_) (fun a ha => ?_)
  ·
   refine wpOp_of_opk (i := 5) rfl ha (op_call_rt hS cf_26 rfl (fun _ => .inr rfl) (UniR.mono) (R08_Unify_c _ _ hS.hold _ HK [] 9 (heap_ hCk hTk) 3 0 _ uiK (by decide) (by decide) (by decide))) ?_
   clear hS
   rintro v52 w ⟨G52, hl52, hR52, hS⟩
   rw [uni] at hR52
   obtain ⟨hvm, rfl, ocm, ccm, otm, ctm, rfl, hCm, hTm⟩ := hR52
   simp only [Option.getD_some] at hCm hTm
   (try replace hF := hF.mono ECell.mono hl52)
   (try replace hG2 := hG2.mono ECell.mono hl52)
   (try replace hCa := hCa.mono ECell.mono hl52)
   (try replace hTa := hTa.mono EInt.mono hl52)
   (try replace hAa := hAa.mono EInt.mono hl52)
   (try replace hCk := hCk.mono ECell.mono hl52)
   (try replace hTk := hTk.mono EInt.mono hl52)
   (try replace hAk := hAk.mono EInt.mono hl52)
   (try replace hcur := hcur.trans hl52)
   refine ⟨no_need (by kernel_rfl), ?_⟩
   refine al_at ?_ (ha.put (blt_lt rfl) _)
   refine al_take (i := 6) rfl (by kernel_rfl) (by kernel_rfl) (by kernel_rfl) rfl (fun _ _ _ h => h) (op_move rfl) rfl (al_take (i := 7) rfl (by kernel_rfl) (by kernel_rfl) (by kernel_rfl) rfl (fun _ _ _ h => h) (op_extract (vs := [.agg #[.slice ocm 4 ccm, .slice otm 1 ctm, .int .i64 9], .bool true]) rfl rfl) rfl (al_take (i := 8) rfl (by kernel_rfl) (by kernel_rfl) (by kernel_rfl) rfl (fun _ _ _ h => h) (op_extract (vs := [.agg #[.slice ocm 4 ccm, .slice otm 1 ctm, .int .i64 9], .bool true]) rfl rfl) rfl ?_))
   refine al_step (i := 9) rfl (by kernel_rfl) rfl (op_alloc hS el_28 rfl) ?_
   clear hS
   rintro _ w ⟨b11, rfl, hS⟩
   have hT := hT.back hS (by first | exact Le.refl _ | assumption) (fun x hx => by try simp only [bkA, bkB, bkC, bkD, bkE] at hx; (rcases hx with rfl) <;> simp)
   refine ⟨fun _ _ => hT, ?_⟩
   refine al_step0 (i := 10) rfl (by kernel_rfl) (op_storeN (j := 0) hS sz_28 rfl rfl rfl rfl rfl (by simp [Value.oneCell'])) ?_
   clear hS
   rintro _ w hS; (try simp only [List.nil_append, List.cons_append, List.set] at hS)
   refine ⟨no_need (by kernel_rfl), ?_⟩
   refine al_take (i := 11) rfl (by kernel_rfl) (by kernel_rfl) (by kernel_rfl) rfl (fun _ _ _ h => h) (op_assign rfl) rfl ?_
   exact K5 _ _ _ _ (by kernel_rfl) (by exact ⟨G52, b11, ocm, otm, ccm, ctm, rfl, hl52, hCm, hTm, hS⟩) ((Sub.cons rfl (Sub.cons rfl (Sub.cons rfl (Sub.cons rfl (Sub.cons rfl (Sub.cons rfl (Sub.cons rfl Sub.nil))))))))
  ·
   refine wpOp_of_opk (i := 9) rfl ha (op_alloc hS el_28 rfl) ?_
   clear hS
   rintro _ w ⟨b11, rfl, hS⟩
   have hT := hT.back hS (by first | exact Le.refl _ | assumption) (fun x hx => by try simp only [bkA, bkB, bkC, bkD, bkE] at hx; (rcases hx with rfl) <;> simp)
   refine ⟨fun _ _ => hT, ?_⟩
   refine al_at ?_ (ha.put (blt_lt rfl) _)
   refine al_step (i := 5) rfl (by kernel_rfl) rfl (op_call_rt hS cf_26 rfl (fun _ => .inr rfl) (UniR.mono) (R08_Unify_c _ _ hS.hold _ HK [] 9 (heap_ hCk hTk) 3 0 _ uiK (by decide) (by decide) (by decide))) ?_
   clear hS
   rintro v52 w ⟨G52, hl52, hR52, hS⟩
   rw [uni] at hR52
   obtain ⟨hvm, rfl, ocm, ccm, otm, ctm, rfl, hCm, hTm⟩ := hR52
   simp only [Option.getD_some] at hCm hTm
   (try replace hF := hF.mono ECell.mono hl52)
   (try replace hG2 := hG2.mono ECell.mono hl52)
   (try replace hCa := hCa.mono ECell.mono hl52)
   (try replace hTa := hTa.mono EInt.mono hl52)
   (try replace hAa := hAa.mono EInt.mono hl52)
   (try replace hCk := hCk.mono ECell.mono hl52)
   (try replace hTk := hTk.mono EInt.mono hl52)
   (try replace hAk := hAk.mono EInt.mono hl52)
   (try replace hcur := hcur.trans hl52)
   refine ⟨no_need (by kernel_rfl), ?_⟩
   refine al_take (i := 6) rfl (by kernel_rfl) (by kernel_rfl) (by kernel_rfl) rfl (fun _ _ _ h => h) (op_move rfl) rfl (al_take (i := 7) rfl (by kernel_rfl) (by kernel_rfl) (by kernel_rfl) rfl (fun _ _ _ h => h) (op_extract (vs := [.agg #[.slice ocm 4 ccm, .slice otm 1 ctm, .int .i64 9], .bool true]) rfl rfl) rfl (al_take (i := 8) rfl (by kernel_rfl) (by kernel_rfl) (by kernel_rfl) rfl (fun _ _ _ h => h) (op_extract (vs := [.agg #[.slice ocm 4 ccm, .slice otm 1 ctm, .int .i64 9], .bool true]) rfl rfl) rfl ?_))
   refine al_step0 (i := 10) rfl (by kernel_rfl) (op_storeN (j := 0) hS sz_28 rfl rfl rfl rfl rfl (by simp [Value.oneCell'])) ?_
   clear hS
   rintro _ w hS; (try simp only [List.nil_append, List.cons_append, List.set] at hS)
   refine ⟨no_need (by kernel_rfl), ?_⟩
   refine al_take (i := 11) rfl (by kernel_rfl) (by kernel_rfl) (by kernel_rfl) rfl (fun _ _ _ h => h) (op_assign rfl) rfl ?_
   exact K5 _ _ _ _ (by kernel_rfl) (by exact ⟨G52, b11, ocm, otm, ccm, ctm, rfl, hl52, hCm, hTm, hS⟩) ((Sub.cons rfl (Sub.cons rfl (Sub.cons rfl (Sub.cons rfl (Sub.cons rfl (Sub.cons rfl (Sub.cons rfl Sub.nil))))))))
 ·
  have hTo := hT
  clear hS hT
  rintro e w ⟨G52, b11, ocm, otm, ccm, ctm, rfl, hl52, hCm, hTm, hS⟩
  have hT := hTo.back hS (by first | exact Le.refl _ | assumption) (fun x hx => by try simp only [bkA, bkB, bkC, bkD, bkE] at hx; (rcases hx with rfl) <;> simp)
  clear hTo
  replace hF := hF.mono ECell.mono hl52
  replace hG2 := hG2.mono ECell.mono hl52
  replace hCa := hCa.mono ECell.mono hl52
  replace hTa := hTa.mono EInt.mono hl52
  replace hAa := hAa.mono EInt.mono hl52
  replace hCk := hCk.mono ECell.mono hl52
  replace hTk := hTk.mono EInt.mono hl52
  replace hAk := hAk.mono EInt.mono hl52
  refine al_done (by kernel_rfl) (pq_then (cw_seq (cw_region (ol_load rfl (op_loadN agg_28 rfl (by rfl) (fun w hw k u hk => (hw.bcell (i := 1) rfl).trans hk)) hS (ol_pure rfl (op_move rfl) ?_)))))
  refine ol_step rfl (op_buildSlice (el := 3) (is := [0, 1, 2]) (xs := [.tmp 57, .const (.int .i64 (9)), .const (.int .i64 (-1))]) (sz := 1) (cs := [.int .i64 (2), .int .i64 (9), .int .i64 (-1)]) hS rfl rfl (fun w => by kernel_rfl) rfl (by decide)) ?_
  clear hS
  rintro _ w ⟨s58, rfl, hS⟩
  obtain ⟨G58, hl58, hS58, hI6⟩ := SS.give' ([2, 9, -1] : List Int) [] EInt.mono hS (by decide) ((Rows.ints (l := [2, 9, -1]) (by decide)).mono EInt.mono (fun b o hb => by cases hb)) rfl
  clear hS
  have hS := hS58
  clear hS58
  (try simp only [List.nil_append, List.cons_append] at hS)
  (try replace hCk := hCk.mono ECell.mono hl58)
  (try replace hTk := hTk.mono EInt.mono hl58)
  (try replace hCm := hCm.mono ECell.mono hl58)
  (try replace hTm := hTm.mono EInt.mono hl58)
  (try replace hcur := hcur.trans hl58)
  refine ol_step rfl (op_call_rt hS cf_16 rfl (fun _ => .inl rfl) (ColR.mono) (gc_Collect_c _ _ hS.hold _ HK [] 9 (heap_ hCk hTk) okK.slots.ok (by decide) _ [2, 9, -1] hI6 _ [] (RSl.nil _) (by decide) (by decide) (by decide) (by unfold MkOk; decide) (by decide) (by decide) (by decide))) ?_
  clear hS
  rintro v59 w ⟨G59, hl59, hR59, hS⟩
  obtain ⟨occ, ccc, otc, ctc, oRc, cRc, oMc, cMc, rfl, hCc, hTc, hRc, hMc⟩ := colX hR59 c1c c1t c1r rfl
  (try replace hCk := hCk.mono ECell.mono hl59)
  (try replace hTk := hTk.mono EInt.mono hl59)
  (try replace hCm := hCm.mono ECell.mono hl59)
  (try replace hTm := hTm.mono EInt.mono hl59)
  (try replace hI6 := hI6.mono EInt.mono hl59)
  (try replace hcur := hcur.trans hl59)
  refine ol_pure rfl (op_move rfl) (ol_pure rfl (op_extract (vs := [.agg #[.slice occ 2 ccc, .slice otc 0 ctc, .int .i64 9], .slice oRc 3 cRc, .slice oMc 0 cMc]) rfl rfl) (ol_pure rfl (op_extract (vs := [.agg #[.slice occ 2 ccc, .slice otc 0 ctc, .int .i64 9], .slice oRc 3 cRc, .slice oMc 0 cMc]) rfl rfl) (ol_pure rfl (op_extract (vs := [.agg #[.slice occ 2 ccc, .slice otc 0 ctc, .int .i64 9], .slice oRc 3 cRc, .slice oMc 0 cMc]) rfl rfl) ?_)))
  refine ol_step rfl (op_alloc hS el_28 rfl) ?_
  clear hS
  rintro _ w ⟨b13, rfl, hS⟩
  refine ol_step0  (op_storeN (j := 0) hS sz_28 rfl rfl rfl rfl rfl (by simp [Value.oneCell'])) ?_
  clear hS
  rintro _ w hS; (try simp only [List.nil_append, List.cons_append, List.set] at hS)
  refine ol_pure rfl (op_assign rfl) (ol_pure rfl (op_assign rfl) (ol_nil (pq_then (cw_seq (cw_region (ol_load rfl (op_loadN agg_28 rfl (by rfl) (fun w hw k u hk => (hw.bcell (i := 2) rfl).trans hk)) hS ?_))))))
  refine ol_step rfl (op_call_rt hS cf_16 rfl (fun _ => .inl rfl) (ColR.mono) (gc_Collect_c _ _ hS.hold _ HK [] 9 (heap_ hCk hTk) okK.slots.ok (by decide) _ [] (RSl.nil _) _ [] (RSl.nil _) (by decide) (by decide) (by decide) (by unfold MkOk; decide) (by decide) (by decide) (by decide))) ?_
  clear hS
  rintro v65 w ⟨G65, hl65, hR65, hS⟩
  obtain ⟨ocd, ccd, otd, ctd, oRd, cRd, oMd, cMd, rfl, hCd, hTd, hRd, hMd⟩ := colX hR65 c2c rfl rfl rfl
  (try replace hCk := hCk.mono ECell.mono hl65)
  (try replace hTk := hTk.mono EInt.mono hl65)
  (try replace hCm := hCm.mono ECell.mono hl65)
  (try replace hTm := hTm.mono EInt.mono hl65)
  (try replace hCc := hCc.mono ECell.mono hl65)
  (try replace hTc := hTc.mono EInt.mono hl65)
  (try replace hRc := hRc.mono EInt.mono hl65)
  (try replace hMc := hMc.mono EMk.mono hl65)
  (try replace hcur := hcur.trans hl65)
  refine ol_pure rfl (op_move rfl) (ol_pure rfl (op_extract (vs := [.agg #[.slice ocd 0 ccd, .slice otd 0 ctd, .int .i64 9], .slice oRd 0 cRd, .slice oMd 0 cMd]) rfl rfl) (ol_pure rfl (op_extract (vs := [.agg #[.slice ocd 0 ccd, .slice otd 0 ctd, .int .i64 9], .slice oRd 0 cRd, .slice oMd 0 cMd]) rfl rfl) (ol_pure rfl (op_extract (vs := [.agg #[.slice ocd 0 ccd, .slice otd 0 ctd, .int .i64 9], .slice oRd 0 cRd, .slice oMd 0 cMd]) rfl rfl) ?_)))
  refine ol_step rfl (op_alloc hS el_28 rfl) ?_
  clear hS
  rintro _ w ⟨b16, rfl, hS⟩
  refine ol_step0  (op_storeN (j := 0) hS sz_28 rfl rfl rfl rfl rfl (by simp [Value.oneCell'])) ?_
  clear hS
  rintro _ w hS; (try simp only [List.nil_append, List.cons_append, List.set] at hS)
  refine ol_pure rfl (op_assign rfl) (ol_pure rfl (op_assign rfl) (ol_nil (pq_then (cw_seq ?_))))
  have hcur := Le.refl G65
  refine al_start' hS (hS.take 4) (by kernel_rfl) rfl (fun w hS hT => ?_)
  refine al_load (i := 0) rfl (by kernel_rfl) (by kernel_rfl) (by kernel_rfl) rfl (fun _ _ _ h => h) (by exact op_loadN agg_28 rfl (by rfl) (fun w hw k u hk => (hw.bcell (i := 2) rfl).trans hk)) rfl hT (al_take (i := 1) rfl (by kernel_rfl) (by kernel_rfl) (by kernel_rfl) rfl (fun _ _ _ h => h) (op_move rfl) rfl (al_load (i := 3) rfl (by kernel_rfl) (by kernel_rfl) (by kernel_rfl) rfl (fun _ _ _ h => h) (by exact op_loadN agg_28 rfl (by rfl) (fun w hw k u hk => (hw.bcell (i := 3) rfl).trans hk)) rfl hT (al_take (i := 4) rfl (by kernel_rfl) (by kernel_rfl) (by kernel_rfl) rfl (fun _ _ _ h => h) (op_move rfl) rfl ?_)))
  refine al_meet (fuel2 := 0) (ds2 := [16, 15, 14, 13, 12, 11, 10, 9, 8, 7, 6, 5, 4, 3, 2, 1, 0]) (fun e w => ∃ (G78 : GH) (b19 : Nat) (oce ote oRe oMe : Option Addr) (cce cte cRe cMe : Nat), e = [(3, .pointer (some ⟨b3, 0, none⟩)), (4, .int .i64 0), (7, .pointer (some ⟨b7, 0, none⟩)), (8, .int .i64 2), (11, .pointer (some ⟨b11, 0, none⟩)), (12, .bool true), (13, .pointer (some ⟨b13, 0, none⟩)), (14, .slice oRc 3 cRc), (15, .slice oMc 0 cMc), (16, .pointer (some ⟨b16, 0, none⟩)), (17, .slice oRd 0 cRd), (19, .pointer (some ⟨b19, 0, none⟩)), (20, .slice oRe 1 cRe), (21, .slice oMe 1 cMe)] ∧ Le G65 G78 ∧ RSl 3 ECell G78 (.slice oce 4 cce) HM ∧ RSl 1 EInt G78 (.slice ote 1 cte) [3] ∧ RSl 1 EInt G78 (.slice oRe 1 cRe) [2] ∧ RSl 3 EMk G78 (.slice oMe 1 cMe) MB ∧ SS G w0 G78 [.blk b19 28 [.slice oce 4 cce, .slice ote 1 cte, .int .i64 9], .blk b16 28 [.slice ocd 0 ccd, .slice otd 0 ctd, .int .i64 9], .blk b13 28 [.slice occ 2 ccc, .slice otc 0 ctc, .int .i64 9], .blk b11 28 [.slice ocm 4 ccm, .slice otm 1 ctm, .int .i64 9], .blk b7 28 [.slice ock 4 cck, .slice otk 0 ctk, .int .i64 9], .blk b3 28 [.slice oca 2 cca, .slice ota 0 cta, .int .i64 9]] w) (fun K8 => ?_) ?_
  ·
   refine al_three (i := 2) (j := 5) (k := 13) (by kernel_rfl) (fun a ha => ?_) (fun a ha => ?_) (fun a ha => ?_)
   ·
    refine wpOp_of_opk (i := 2) rfl ha (op_buildSlice (el := 3) (is := [0]) (xs := [.tmp 71]) (sz := 1) (cs := [.int .i64 (2)]) hS rfl rfl (fun w => by kernel_rfl) rfl (by decide)) ?_
    clear hS
    rintro _ w ⟨s72, rfl, hS⟩
    obtain ⟨G72, hl72, hS72, hI8⟩ := SS.give' ([2] : List Int) [] EInt.mono hS (by decide) ((Rows.ints (l := [2]) (by decide)).mono EInt.mono (fun b o hb => by cases hb)) rfl
    clear hS
    have hS := hS72
    clear hS72
    (try simp only [List.nil_append, List.cons_append] at hS)
    (try replace hCk := hCk.mono ECell.mono hl72)
    (try replace hTk := hTk.mono EInt.mono hl72)
    (try replace hCm := hCm.mono ECell.mono hl72)
    (try replace hTm := hTm.mono EInt.mono hl72)
    (try replace hI8 := hI8.mono EInt.mono hl72)
    (try replace hJ8 := hJ8.mono EInt.mono hl72)
    (try replace hMB := hMB.mono EMk.mono hl72)
    (try replace hCe := hCe.mono ECell.mono hl72)
    (try replace hTe := hTe.mono EInt.mono hl72)
    (try replace hRe := hRe.mono EInt.mono hl72)
    (try replace hMe := hMe.mono EMk.mono hl72)
    (try replace hcur := hcur.trans hl72)
    have hT := hT.back hS (by first | exact Le.refl _ | assumption) (fun x hx => by try simp only [bkA, bkB, bkC, bkD, bkE] at hx; (rcases hx with rfl | rfl | rfl | rfl) <;> simp)
    refine ⟨fun _ _ => hT, ?_⟩
    refine al_at ?_ (ha.put (blt_lt rfl) _)
    refine al_two (i := 5) (j := 13) (by kernel_rfl) (fun a ha => ?_) (fun a ha => ?_)
    ·
     refine wpOp_of_opk (i := 5) rfl ha (op_buildSlice (el := 3) (is := [0]) (xs := [.tmp 74]) (sz := 1) (cs := [.int .i64 (2)]) hS rfl rfl (fun w => by kernel_rfl) rfl (by decide)) ?_
     clear hS
     rintro _ w ⟨s75, rfl, hS⟩
     obtain ⟨G75, hl75, hS75, hJ8⟩ := SS.give' ([2] : List Int) [] EInt.mono hS (by decide) ((Rows.ints (l := [2]) (by decide)).mono EInt.mono (fun b o hb => by cases hb)) rfl
     clear hS
     have hS := hS75
     clear hS75
     (try simp only [List.nil_append, List.cons_append] at hS)
     (try replace hCk := hCk.mono ECell.mono hl75)
     (try replace hTk := hTk.mono EInt.mono hl75)
     (try replace hCm := hCm.mono ECell.mono hl75)
     (try replace hTm := hTm.mono EInt.mono hl75)
     (try replace hI8 := hI8.mono EInt.mono hl75)
     (try replace hJ8 := hJ8.mono EInt.mono hl75)
     (try replace hMB := hMB.mono EMk.mono hl75)
     (try replace hCe := hCe.mono ECell.mono hl75)
     (try replace hTe := hTe.mono EInt.mono hl75)
     (try replace hRe := hRe.mono EInt.mono hl75)
     (try replace hMe := hMe.mono EMk.mono hl75)
     (try replace hcur := hcur.trans hl75)
     have hT := hT.back hS (by first | exact Le.refl _ | assumption) (fun x hx => by try simp only [bkA, bkB, bkC, bkD, bkE] at hx; (rcases hx with rfl | rfl | rfl | rfl) <;> simp)
     refine ⟨fun _ _ => hT, ?_⟩
     refine al_at ?_ (ha.put (blt_lt rfl) _)
     refine al_two (i := 6) (j := 13) (by kernel_rfl) (fun a ha => ?_) (fun a ha => ?_)
     ·
      refine wpOp_of_opk (i := 6) rfl ha (op_call_sc hS cf_30 rfl (R08_Mark_c _ _ hS.hold _ HK [] 9 (heap_ hCk hTk) s75 1 1)) ?_
      clear hS
      rintro _ w ⟨rfl, hS⟩
      have hT := hT.back hS (by first | exact Le.refl _ | assumption) (fun x hx => by try simp only [bkA, bkB, bkC, bkD, bkE] at hx; (rcases hx with rfl | rfl | rfl | rfl) <;> simp)
      refine ⟨fun _ _ => hT, ?_⟩
      refine al_at ?_ (ha.put (blt_lt rfl) _)
      refine al_two (i := 7) (j := 13) (by kernel_rfl) (fun a ha => ?_) (fun a ha => ?_)
      ·
       refine wpOp_of_opk (i := 7) rfl ha (op_buildSlice (el := 46) (is := [0]) (xs := [.tmp 76]) (sz := 3) (cs := [.int .i64 4, .int .i64 0, .slice s75 1 1]) hS rfl rfl (fun w => by kernel_rfl) rfl (by decide)) ?_
       clear hS
       rintro _ w ⟨s77, rfl, hS⟩
       obtain ⟨G77, hl77, hS77, hMB⟩ := SS.give' (MB : List Mk) [] EMk.mono hS (by decide) (by exact (Rows.nil (sz := 3) (E := EMk) _).snoc rfl ⟨_, rfl, hJ8, by decide, by decide⟩) rfl
       clear hS
       have hS := hS77
       clear hS77
       (try simp only [List.nil_append, List.cons_append] at hS)
       (try replace hCk := hCk.mono ECell.mono hl77)
       (try replace hTk := hTk.mono EInt.mono hl77)
       (try replace hCm := hCm.mono ECell.mono hl77)
       (try replace hTm := hTm.mono EInt.mono hl77)
       (try replace hI8 := hI8.mono EInt.mono hl77)
       (try replace hJ8 := hJ8.mono EInt.mono hl77)
       (try replace hMB := hMB.mono EMk.mono hl77)
       (try replace hCe := hCe.mono ECell.mono hl77)
       (try replace hTe := hTe.mono EInt.mono hl77)
       (try replace hRe := hRe.mono EInt.mono hl77)
       (try replace hMe := hMe.mono EMk.mono hl77)
       (try replace hcur := hcur.trans hl77)
       have hT := hT.back hS (by first | exact Le.refl _ | assumption) (fun x hx => by try simp only [bkA, bkB, bkC, bkD, bkE] at hx; (rcases hx with rfl | rfl | rfl | rfl) <;> simp)
       refine ⟨fun _ _ => hT, ?_⟩
       refine al_at ?_ (ha.put (blt_lt rfl) _)
       refine al_two (i := 8) (j := 13) (by kernel_rfl) (fun a ha => ?_) (fun a ha => ?_)
       ·
        refine wpOp_of_opk (i := 8) rfl ha (op_call_rt hS cf_16 rfl (fun _ => .inl rfl) (ColR.mono) (gc_Collect_c _ _ hS.hold _ HM [3] 9 (heap_ hCm hTm) okM.slots.ok (by decide) _ [2] hI8 _ MB hMB (by decide) (by decide) (by decide) (by unfold MkOk; decide) (by decide) (by decide) (by decide))) ?_
        clear hS
        rintro v78 w ⟨G78, hl78, hR78, hS⟩
        obtain ⟨oce, cce, ote, cte, oRe, cRe, oMe, cMe, rfl, hCe, hTe, hRe, hMe⟩ := colX hR78 c3c c3t c3r c3m
        (try replace hCk := hCk.mono ECell.mono hl78)
        (try replace hTk := hTk.mono EInt.mono hl78)
        (try replace hCm := hCm.mono ECell.mono hl78)
        (try replace hTm := hTm.mono EInt.mono hl78)
        (try replace hI8 := hI8.mono EInt.mono hl78)
        (try replace hJ8 := hJ8.mono EInt.mono hl78)
        (try replace hMB := hMB.mono EMk.mono hl78)
        (try replace hCe := hCe.mono ECell.mono hl78)
        (try replace hTe := hTe.mono EInt.mono hl78)
        (try replace hRe := hRe.mono EInt.mono hl78)
        (try replace hMe := hMe.mono EMk.mono hl78)
        (try replace hcur := hcur.trans hl78)
        have hT := hT.back hS (by first | exact Le.refl _ | assumption) (fun x hx => by try simp only [bkA, bkB, bkC, bkD, bkE] at hx; (rcases hx with rfl | rfl | rfl | rfl) <;> simp)
        refine ⟨fun _ _ => hT, ?_⟩
        refine al_at ?_ (ha.put (blt_lt rfl) _)
        refine al_take (i := 9) rfl (by kernel_rfl) (by kernel_rfl) (by kernel_rfl) rfl (fun _ _ _ h => h) (op_move rfl) rfl (al_take (i := 10) rfl (by kernel_rfl) (by kernel_rfl) (by kernel_rfl) rfl (fun _ _ _ h => h) (op_extract (vs := [.agg #[.slice oce 4 cce, .slice ote 1 cte, .int .i64 9], .slice oRe 1 cRe, .slice oMe 1 cMe]) rfl rfl) rfl (al_take (i := 11) rfl (by kernel_rfl) (by kernel_rfl) (by kernel_rfl) rfl (fun _ _ _ h => h) (op_extract (vs := [.agg #[.slice oce 4 cce, .slice ote 1 cte, .int .i64 9], .slice oRe 1 cRe, .slice oMe 1 cMe]) rfl rfl) rfl (al_take (i := 12) rfl (by kernel_rfl) (by kernel_rfl) (by kernel_rfl) rfl (fun _ _ _ h => h) (op_extract (vs := [.agg #[.slice oce 4 cce, .slice ote 1 cte, .int .i64 9], .slice oRe 1 cRe, .slice oMe 1 cMe]) rfl rfl) rfl ?_)))
        refine al_step (i := 13) rfl (by kernel_rfl) rfl (op_alloc hS el_28 rfl) ?_
        clear hS
        rintro _ w ⟨b19, rfl, hS⟩
        have hT := hT.back hS (by first | exact Le.refl _ | assumption) (fun x hx => by try simp only [bkA, bkB, bkC, bkD, bkE] at hx; (rcases hx with rfl | rfl | rfl | rfl) <;> simp)
        refine ⟨fun _ _ => hT, ?_⟩
        refine al_step0 (i := 14) rfl (by kernel_rfl) (op_storeN (j := 0) hS sz_28 rfl rfl rfl rfl rfl (by simp [Value.oneCell'])) ?_
        clear hS
        rintro _ w hS; (try simp only [List.nil_append, List.cons_append, List.set] at hS)
        refine ⟨no_need (by kernel_rfl), ?_⟩
        refine al_take (i := 15) rfl (by kernel_rfl) (by kernel_rfl) (by kernel_rfl) rfl (fun _ _ _ h => h) (op_assign rfl) rfl (al_take (i := 16) rfl (by kernel_rfl) (by kernel_rfl) (by kernel_rfl) rfl (fun _ _ _ h => h) (op_assign rfl) rfl ?_)
        exact K8 _ _ _ _ (by kernel_rfl) (by exact ⟨_, b19, oce, ote, oRe, oMe, cce, cte, cRe, cMe, rfl, hcur, hCe, hTe, hRe, hMe, hS⟩) ((Sub.cons rfl (Sub.cons rfl (Sub.cons rfl (Sub.cons rfl (Sub.cons rfl (Sub.cons rfl (Sub.cons rfl (Sub.cons rfl (Sub.cons rfl (Sub.cons rfl (Sub.cons rfl (Sub.cons rfl (Sub.cons rfl (Sub.cons rfl Sub.nil)))))))))))))))
       ·
        refine wpOp_of_opk (i := 13) rfl ha (op_alloc hS el_28 rfl) ?_
        clear hS
        rintro _ w ⟨b19, rfl, hS⟩
        have hT := hT.back hS (by first | exact Le.refl _ | assumption) (fun x hx => by try simp only [bkA, bkB, bkC, bkD, bkE] at hx; (rcases hx with rfl | rfl | rfl | rfl) <;> simp)
        refine ⟨fun _ _ => hT, ?_⟩
        refine al_at ?_ (ha.put (blt_lt rfl) _)
        refine al_step (i := 8) rfl (by kernel_rfl) rfl (op_call_rt hS cf_16 rfl (fun _ => .inl rfl) (ColR.mono) (gc_Collect_c _ _ hS.hold _ HM [3] 9 (heap_ hCm hTm) okM.slots.ok (by decide) _ [2] hI8 _ MB hMB (by decide) (by decide) (by decide) (by unfold MkOk; decide) (by decide) (by decide) (by decide))) ?_
        clear hS
        rintro v78 w ⟨G78, hl78, hR78, hS⟩
        obtain ⟨oce, cce, ote, cte, oRe, cRe, oMe, cMe, rfl, hCe, hTe, hRe, hMe⟩ := colX hR78 c3c c3t c3r c3m
        (try replace hCk := hCk.mono ECell.mono hl78)
        (try replace hTk := hTk.mono EInt.mono hl78)
        (try replace hCm := hCm.mono ECell.mono hl78)
        (try replace hTm := hTm.mono EInt.mono hl78)
        (try replace hI8 := hI8.mono EInt.mono hl78)
        (try replace hJ8 := hJ8.mono EInt.mono hl78)
        (try replace hMB := hMB.mono EMk.mono hl78)
        (try replace hCe := hCe.mono ECell.mono hl78)
        (try replace hTe := hTe.mono EInt.mono hl78)
        (try replace hRe := hRe.mono EInt.mono hl78)
        (try replace hMe := hMe.mono EMk.mono hl78)
        (try replace hcur := hcur.trans hl78)
        have hT := hT.back hS (by first | exact Le.refl _ | assumption) (fun x hx => by try simp only [bkA, bkB, bkC, bkD, bkE] at hx; (rcases hx with rfl | rfl | rfl | rfl) <;> simp)
        refine ⟨fun _ _ => hT, ?_⟩
        refine al_take (i := 9) rfl (by kernel_rfl) (by kernel_rfl) (by kernel_rfl) rfl (fun _ _ _ h => h) (op_move rfl) rfl (al_take (i := 10) rfl (by kernel_rfl) (by kernel_rfl) (by kernel_rfl) rfl (fun _ _ _ h => h) (op_extract (vs := [.agg #[.slice oce 4 cce, .slice ote 1 cte, .int .i64 9], .slice oRe 1 cRe, .slice oMe 1 cMe]) rfl rfl) rfl (al_take (i := 11) rfl (by kernel_rfl) (by kernel_rfl) (by kernel_rfl) rfl (fun _ _ _ h => h) (op_extract (vs := [.agg #[.slice oce 4 cce, .slice ote 1 cte, .int .i64 9], .slice oRe 1 cRe, .slice oMe 1 cMe]) rfl rfl) rfl (al_take (i := 12) rfl (by kernel_rfl) (by kernel_rfl) (by kernel_rfl) rfl (fun _ _ _ h => h) (op_extract (vs := [.agg #[.slice oce 4 cce, .slice ote 1 cte, .int .i64 9], .slice oRe 1 cRe, .slice oMe 1 cMe]) rfl rfl) rfl ?_)))
        refine al_step0 (i := 14) rfl (by kernel_rfl) (op_storeN (j := 0) hS sz_28 rfl rfl rfl rfl rfl (by simp [Value.oneCell'])) ?_
        clear hS
        rintro _ w hS; (try simp only [List.nil_append, List.cons_append, List.set] at hS)
        refine ⟨no_need (by kernel_rfl), ?_⟩
        refine al_take (i := 15) rfl (by kernel_rfl) (by kernel_rfl) (by kernel_rfl) rfl (fun _ _ _ h => h) (op_assign rfl) rfl (al_take (i := 16) rfl (by kernel_rfl) (by kernel_rfl) (by kernel_rfl) rfl (fun _ _ _ h => h) (op_assign rfl) rfl ?_)
        exact K8 _ _ _ _ (by kernel_rfl) (by exact ⟨_, b19, oce, ote, oRe, oMe, cce, cte, cRe, cMe, rfl, hcur, hCe, hTe, hRe, hMe, hS⟩) ((Sub.cons rfl (Sub.cons rfl (Sub.cons rfl (Sub.cons rfl (Sub.cons rfl (Sub.cons rfl (Sub.cons rfl (Sub.cons rfl (Sub.cons rfl (Sub.cons rfl (Sub.cons rfl (Sub.cons rfl (Sub.cons rfl (Sub.cons rfl Sub.nil)))))))))))))))
      ·
       refine wpOp_of_opk (i := 13) rfl ha (op_alloc hS el_28 rfl) ?_
       clear hS
       rintro _ w ⟨b19, rfl, hS⟩
       have hT := hT.back hS (by first | exact Le.refl _ | assumption) (fun x hx => by try simp only [bkA, bkB, bkC, bkD, bkE] at hx; (rcases hx with rfl | rfl | rfl | rfl) <;> simp)
       refine ⟨fun _ _ => hT, ?_⟩
       refine al_at ?_ (ha.put (blt_lt rfl) _)
       refine al_step (i := 7) rfl (by kernel_rfl) rfl (op_buildSlice (el := 46) (is := [0]) (xs := [.tmp 76]) (sz := 3) (cs := [.int .i64 4, .int .i64 0, .slice s75 1 1]) hS rfl rfl (fun w => by kernel_rfl) rfl (by decide)) ?_
       clear hS
       rintro _ w ⟨s77, rfl, hS⟩
       obtain ⟨G77, hl77, hS77, hMB⟩ := SS.give' (MB : List Mk) [] EMk.mono hS (by decide) (by exact (Rows.nil (sz := 3) (E := EMk) _).snoc rfl ⟨_, rfl, hJ8, by decide, by decide⟩) rfl
       clear hS
       have hS := hS77
       clear hS77
       (try simp only [List.nil_append, List.cons_append] at hS)
       (try replace hCk := hCk.mono ECell.mono hl77)
       (try replace hTk := hTk.mono EInt.mono hl77)
       (try replace hCm := hCm.mono ECell.mono hl77)
       (try replace hTm := hTm.mono EInt.mono hl77)
       (try replace hI8 := hI8.mono EInt.mono hl77)
       (try replace hJ8 := hJ8.mono EInt.mono hl77)
       (try replace hMB := hMB.mono EMk.mono hl77)
       (try replace hCe := hCe.mono ECell.mono hl77)
       (try replace hTe := hTe.mono EInt.mono hl77)
       (try replace hRe := hRe.mono EInt.mono hl77)
       (try replace hMe := hMe.mono EMk.mono hl77)
       (try replace hcur := hcur.trans hl77)
       have hT := hT.back hS (by first | exact Le.refl _ | assumption) (fun x hx => by try simp only [bkA, bkB, bkC, bkD, bkE] at hx; (rcases hx with rfl | rfl | rfl | rfl) <;> simp)
       refine ⟨fun _ _ => hT, ?_⟩
       refine al_step (i := 8) rfl (by kernel_rfl) rfl (op_call_rt hS cf_16 rfl (fun _ => .inl rfl) (ColR.mono) (gc_Collect_c _ _ hS.hold _ HM [3] 9 (heap_ hCm hTm) okM.slots.ok (by decide) _ [2] hI8 _ MB hMB (by decide) (by decide) (by decide) (by unfold MkOk; decide) (by decide) (by decide) (by decide))) ?_
       clear hS
       rintro v78 w ⟨G78, hl78, hR78, hS⟩
       obtain ⟨oce, cce, ote, cte, oRe, cRe, oMe, cMe, rfl, hCe, hTe, hRe, hMe⟩ := colX hR78 c3c c3t c3r c3m
       (try replace hCk := hCk.mono ECell.mono hl78)
       (try replace hTk := hTk.mono EInt.mono hl78)
       (try replace hCm := hCm.mono ECell.mono hl78)
       (try replace hTm := hTm.mono EInt.mono hl78)
       (try replace hI8 := hI8.mono EInt.mono hl78)
       (try replace hJ8 := hJ8.mono EInt.mono hl78)
       (try replace hMB := hMB.mono EMk.mono hl78)
       (try replace hCe := hCe.mono ECell.mono hl78)
       (try replace hTe := hTe.mono EInt.mono hl78)
       (try replace hRe := hRe.mono EInt.mono hl78)
       (try replace hMe := hMe.mono EMk.mono hl78)
       (try replace hcur := hcur.trans hl78)
       have hT := hT.back hS (by first | exact Le.refl _ | assumption) (fun x hx => by try simp only [bkA, bkB, bkC, bkD, bkE] at hx; (rcases hx with rfl | rfl | rfl | rfl) <;> simp)
       refine ⟨fun _ _ => hT, ?_⟩
       refine al_take (i := 9) rfl (by kernel_rfl) (by kernel_rfl) (by kernel_rfl) rfl (fun _ _ _ h => h) (op_move rfl) rfl (al_take (i := 10) rfl (by kernel_rfl) (by kernel_rfl) (by kernel_rfl) rfl (fun _ _ _ h => h) (op_extract (vs := [.agg #[.slice oce 4 cce, .slice ote 1 cte, .int .i64 9], .slice oRe 1 cRe, .slice oMe 1 cMe]) rfl rfl) rfl (al_take (i := 11) rfl (by kernel_rfl) (by kernel_rfl) (by kernel_rfl) rfl (fun _ _ _ h => h) (op_extract (vs := [.agg #[.slice oce 4 cce, .slice ote 1 cte, .int .i64 9], .slice oRe 1 cRe, .slice oMe 1 cMe]) rfl rfl) rfl (al_take (i := 12) rfl (by kernel_rfl) (by kernel_rfl) (by kernel_rfl) rfl (fun _ _ _ h => h) (op_extract (vs := [.agg #[.slice oce 4 cce, .slice ote 1 cte, .int .i64 9], .slice oRe 1 cRe, .slice oMe 1 cMe]) rfl rfl) rfl ?_)))
       refine al_step0 (i := 14) rfl (by kernel_rfl) (op_storeN (j := 0) hS sz_28 rfl rfl rfl rfl rfl (by simp [Value.oneCell'])) ?_
       clear hS
       rintro _ w hS; (try simp only [List.nil_append, List.cons_append, List.set] at hS)
       refine ⟨no_need (by kernel_rfl), ?_⟩
       refine al_take (i := 15) rfl (by kernel_rfl) (by kernel_rfl) (by kernel_rfl) rfl (fun _ _ _ h => h) (op_assign rfl) rfl (al_take (i := 16) rfl (by kernel_rfl) (by kernel_rfl) (by kernel_rfl) rfl (fun _ _ _ h => h) (op_assign rfl) rfl ?_)
       exact K8 _ _ _ _ (by kernel_rfl) (by exact ⟨_, b19, oce, ote, oRe, oMe, cce, cte, cRe, cMe, rfl, hcur, hCe, hTe, hRe, hMe, hS⟩) ((Sub.cons rfl (Sub.cons rfl (Sub.cons rfl (Sub.cons rfl (Sub.cons rfl (Sub.cons rfl (Sub.cons rfl (Sub.cons rfl (Sub.cons rfl (Sub.cons rfl (Sub.cons rfl (Sub.cons rfl (Sub.cons rfl (Sub.cons rfl Sub.nil)))))))))))))))
     ·
      refine wpOp_of_opk (i := 13) rfl ha (op_alloc hS el_28 rfl) ?_
      clear hS
      rintro _ w ⟨b19, rfl, hS⟩
      have hT := hT.back hS (by first | exact Le.refl _ | assumption) (fun x hx => by try simp only [bkA, bkB, bkC, bkD, bkE] at hx; (rcases hx with rfl | rfl | rfl | rfl) <;> simp)
      refine ⟨fun _ _ => hT, ?_⟩
      refine al_at ?_ (ha.put (blt_lt rfl) _)
      refine al_step (i := 6) rfl (by kernel_rfl) rfl (op_call_sc hS cf_30 rfl (R08_Mark_c _ _ hS.hold _ HK [] 9 (heap_ hCk hTk) s75 1 1)) ?_
      clear hS
      rintro _ w ⟨rfl, hS⟩
      have hT := hT.back hS (by first | exact Le.refl _ | assumption) (fun x hx => by try simp only [bkA, bkB, bkC, bkD, bkE] at hx; (rcases hx with rfl | rfl | rfl | rfl) <;> simp)
      refine ⟨fun _ _ => hT, ?_⟩
      refine al_step (i := 7) rfl (by kernel_rfl) rfl (op_buildSlice (el := 46) (is := [0]) (xs := [.tmp 76]) (sz := 3) (cs := [.int .i64 4, .int .i64 0, .slice s75 1 1]) hS rfl rfl (fun w => by kernel_rfl) rfl (by decide)) ?_
      clear hS
      rintro _ w ⟨s77, rfl, hS⟩
      obtain ⟨G77, hl77, hS77, hMB⟩ := SS.give' (MB : List Mk) [] EMk.mono hS (by decide) (by exact (Rows.nil (sz := 3) (E := EMk) _).snoc rfl ⟨_, rfl, hJ8, by decide, by decide⟩) rfl
      clear hS
      have hS := hS77
      clear hS77
      (try simp only [List.nil_append, List.cons_append] at hS)
      (try replace hCk := hCk.mono ECell.mono hl77)
      (try replace hTk := hTk.mono EInt.mono hl77)
      (try replace hCm := hCm.mono ECell.mono hl77)
      (try replace hTm := hTm.mono EInt.mono hl77)
      (try replace hI8 := hI8.mono EInt.mono hl77)
      (try replace hJ8 := hJ8.mono EInt.mono hl77)
      (try replace hMB := hMB.mono EMk.mono hl77)
      (try replace hCe := hCe.mono ECell.mono hl77)
      (try replace hTe := hTe.mono EInt.mono hl77)
      (try replace hRe := hRe.mono EInt.mono hl77)
      (try replace hMe := hMe.mono EMk.mono hl77)
      (try replace hcur := hcur.trans hl77)
      have hT := hT.back hS (by first | exact Le.refl _ | assumption) (fun x hx => by try simp only [bkA, bkB, bkC, bkD, bkE] at hx; (rcases hx with rfl | rfl | rfl | rfl) <;> simp)
      refine ⟨fun _ _ => hT, ?_⟩
      refine al_step (i := 8) rfl (by kernel_rfl) rfl (op_call_rt hS cf_16 rfl (fun _ => .inl rfl) (ColR.mono) (gc_Collect_c _ _ hS.hold _ HM [3] 9 (heap_ hCm hTm) okM.slots.ok (by decide) _ [2] hI8 _ MB hMB (by decide) (by decide) (by decide) (by unfold MkOk; decide) (by decide) (by decide) (by decide))) ?_
      clear hS
      rintro v78 w ⟨G78, hl78, hR78, hS⟩
      obtain ⟨oce, cce, ote, cte, oRe, cRe, oMe, cMe, rfl, hCe, hTe, hRe, hMe⟩ := colX hR78 c3c c3t c3r c3m
      (try replace hCk := hCk.mono ECell.mono hl78)
      (try replace hTk := hTk.mono EInt.mono hl78)
      (try replace hCm := hCm.mono ECell.mono hl78)
      (try replace hTm := hTm.mono EInt.mono hl78)
      (try replace hI8 := hI8.mono EInt.mono hl78)
      (try replace hJ8 := hJ8.mono EInt.mono hl78)
      (try replace hMB := hMB.mono EMk.mono hl78)
      (try replace hCe := hCe.mono ECell.mono hl78)
      (try replace hTe := hTe.mono EInt.mono hl78)
      (try replace hRe := hRe.mono EInt.mono hl78)
      (try replace hMe := hMe.mono EMk.mono hl78)
      (try replace hcur := hcur.trans hl78)
      have hT := hT.back hS (by first | exact Le.refl _ | assumption) (fun x hx => by try simp only [bkA, bkB, bkC, bkD, bkE] at hx; (rcases hx with rfl | rfl | rfl | rfl) <;> simp)
      refine ⟨fun _ _ => hT, ?_⟩
      refine al_take (i := 9) rfl (by kernel_rfl) (by kernel_rfl) (by kernel_rfl) rfl (fun _ _ _ h => h) (op_move rfl) rfl (al_take (i := 10) rfl (by kernel_rfl) (by kernel_rfl) (by kernel_rfl) rfl (fun _ _ _ h => h) (op_extract (vs := [.agg #[.slice oce 4 cce, .slice ote 1 cte, .int .i64 9], .slice oRe 1 cRe, .slice oMe 1 cMe]) rfl rfl) rfl (al_take (i := 11) rfl (by kernel_rfl) (by kernel_rfl) (by kernel_rfl) rfl (fun _ _ _ h => h) (op_extract (vs := [.agg #[.slice oce 4 cce, .slice ote 1 cte, .int .i64 9], .slice oRe 1 cRe, .slice oMe 1 cMe]) rfl rfl) rfl (al_take (i := 12) rfl (by kernel_rfl) (by kernel_rfl) (by kernel_rfl) rfl (fun _ _ _ h => h) (op_extract (vs := [.agg #[.slice oce 4 cce, .slice ote 1 cte, .int .i64 9], .slice oRe 1 cRe, .slice oMe 1 cMe]) rfl rfl) rfl ?_)))
      refine al_step0 (i := 14) rfl (by kernel_rfl) (op_storeN (j := 0) hS sz_28 rfl rfl rfl rfl rfl (by simp [Value.oneCell'])) ?_
      clear hS
      rintro _ w hS; (try simp only [List.nil_append, List.cons_append, List.set] at hS)
      refine ⟨no_need (by kernel_rfl), ?_⟩
      refine al_take (i := 15) rfl (by kernel_rfl) (by kernel_rfl) (by kernel_rfl) rfl (fun _ _ _ h => h) (op_assign rfl) rfl (al_take (i := 16) rfl (by kernel_rfl) (by kernel_rfl) (by kernel_rfl) rfl (fun _ _ _ h => h) (op_assign rfl) rfl ?_)
      exact K8 _ _ _ _ (by kernel_rfl) (by exact ⟨_, b19, oce, ote, oRe, oMe, cce, cte, cRe, cMe, rfl, hcur, hCe, hTe, hRe, hMe, hS⟩) ((Sub.cons rfl (Sub.cons rfl (Sub.cons rfl (Sub.cons rfl (Sub.cons rfl (Sub.cons rfl (Sub.cons rfl (Sub.cons rfl (Sub.cons rfl (Sub.cons rfl (Sub.cons rfl (Sub.cons rfl (Sub.cons rfl (Sub.cons rfl Sub.nil)))))))))))))))
    ·
     refine wpOp_of_opk (i := 13) rfl ha (op_alloc hS el_28 rfl) ?_
     clear hS
     rintro _ w ⟨b19, rfl, hS⟩
     have hT := hT.back hS (by first | exact Le.refl _ | assumption) (fun x hx => by try simp only [bkA, bkB, bkC, bkD, bkE] at hx; (rcases hx with rfl | rfl | rfl | rfl) <;> simp)
     refine ⟨fun _ _ => hT, ?_⟩
     refine al_at ?_ (ha.put (blt_lt rfl) _)
     refine al_step (i := 5) rfl (by kernel_rfl) rfl (op_buildSlice (el := 3) (is := [0]) (xs := [.tmp 74]) (sz := 1) (cs := [.int .i64 (2)]) hS rfl rfl (fun w => by kernel_rfl) rfl (by decide)) ?_
     clear hS
     rintro _ w ⟨s75, rfl, hS⟩
     obtain ⟨G75, hl75, hS75, hJ8⟩ := SS.give' ([2] : List Int) [] EInt.mono hS (by decide) ((Rows.ints (l := [2]) (by decide)).mono EInt.mono (fun b o hb => by cases hb)) rfl
     clear hS
     have hS := hS75
     clear hS75
     (try simp only [List.nil_append, List.cons_append] at hS)
     (try replace hCk := hCk.mono ECell.mono hl75)
     (try replace hTk := hTk.mono EInt.mono hl75)
     (try replace hCm := hCm.mono ECell.mono hl75)
     (try replace hTm := hTm.mono EInt.mono hl75)
     (try replace hI8 := hI8.mono EInt.mono hl75)
     (try replace hJ8 := hJ8.mono EInt.mono hl75)
     (try replace hMB := hMB.mono EMk.mono hl75)
     (try replace hCe := hCe.mono ECell.mono hl75)
     (try replace hTe := hTe.mono EInt.mono hl75)
     (try replace hRe := hRe.mono EInt.mono hl75)
     (try replace hMe := hMe.mono EMk.mono hl75)
     (try replace hcur := hcur.trans hl75)
     have hT := hT.back hS (by first | exact Le.refl _ | assumption) (fun x hx => by try simp only [bkA, bkB, bkC, bkD, bkE] at hx; (rcases hx with rfl | rfl | rfl | rfl) <;> simp)
     refine ⟨fun _ _ => hT, ?_⟩
     refine al_step (i := 6) rfl (by kernel_rfl) rfl (op_call_sc hS cf_30 rfl (R08_Mark_c _ _ hS.hold _ HK [] 9 (heap_ hCk hTk) s75 1 1)) ?_
     clear hS
     rintro _ w ⟨rfl, hS⟩
     have hT := hT.back hS (by first | exact Le.refl _ | assumption) (fun x hx => by try simp only [bkA, bkB, bkC, bkD, bkE] at hx; (rcases hx with rfl | rfl | rfl | rfl) <;> simp)
     refine ⟨fun _ _ => hT, ?_⟩
     refine al_step (i := 7) rfl (by kernel_rfl) rfl (op_buildSlice (el := 46) (is := [0]) (xs := [.tmp 76]) (sz := 3) (cs := [.int .i64 4, .int .i64 0, .slice s75 1 1]) hS rfl rfl (fun w => by kernel_rfl) rfl (by decide)) ?_
     clear hS
     rintro _ w ⟨s77, rfl, hS⟩
     obtain ⟨G77, hl77, hS77, hMB⟩ := SS.give' (MB : List Mk) [] EMk.mono hS (by decide) (by exact (Rows.nil (sz := 3) (E := EMk) _).snoc rfl ⟨_, rfl, hJ8, by decide, by decide⟩) rfl
     clear hS
     have hS := hS77
     clear hS77
     (try simp only [List.nil_append, List.cons_append] at hS)
     (try replace hCk := hCk.mono ECell.mono hl77)
     (try replace hTk := hTk.mono EInt.mono hl77)
     (try replace hCm := hCm.mono ECell.mono hl77)
     (try replace hTm := hTm.mono EInt.mono hl77)
     (try replace hI8 := hI8.mono EInt.mono hl77)
     (try replace hJ8 := hJ8.mono EInt.mono hl77)
     (try replace hMB := hMB.mono EMk.mono hl77)
     (try replace hCe := hCe.mono ECell.mono hl77)
     (try replace hTe := hTe.mono EInt.mono hl77)
     (try replace hRe := hRe.mono EInt.mono hl77)
     (try replace hMe := hMe.mono EMk.mono hl77)
     (try replace hcur := hcur.trans hl77)
     have hT := hT.back hS (by first | exact Le.refl _ | assumption) (fun x hx => by try simp only [bkA, bkB, bkC, bkD, bkE] at hx; (rcases hx with rfl | rfl | rfl | rfl) <;> simp)
     refine ⟨fun _ _ => hT, ?_⟩
     refine al_step (i := 8) rfl (by kernel_rfl) rfl (op_call_rt hS cf_16 rfl (fun _ => .inl rfl) (ColR.mono) (gc_Collect_c _ _ hS.hold _ HM [3] 9 (heap_ hCm hTm) okM.slots.ok (by decide) _ [2] hI8 _ MB hMB (by decide) (by decide) (by decide) (by unfold MkOk; decide) (by decide) (by decide) (by decide))) ?_
     clear hS
     rintro v78 w ⟨G78, hl78, hR78, hS⟩
     obtain ⟨oce, cce, ote, cte, oRe, cRe, oMe, cMe, rfl, hCe, hTe, hRe, hMe⟩ := colX hR78 c3c c3t c3r c3m
     (try replace hCk := hCk.mono ECell.mono hl78)
     (try replace hTk := hTk.mono EInt.mono hl78)
     (try replace hCm := hCm.mono ECell.mono hl78)
     (try replace hTm := hTm.mono EInt.mono hl78)
     (try replace hI8 := hI8.mono EInt.mono hl78)
     (try replace hJ8 := hJ8.mono EInt.mono hl78)
     (try replace hMB := hMB.mono EMk.mono hl78)
     (try replace hCe := hCe.mono ECell.mono hl78)
     (try replace hTe := hTe.mono EInt.mono hl78)
     (try replace hRe := hRe.mono EInt.mono hl78)
     (try replace hMe := hMe.mono EMk.mono hl78)
     (try replace hcur := hcur.trans hl78)
     have hT := hT.back hS (by first | exact Le.refl _ | assumption) (fun x hx => by try simp only [bkA, bkB, bkC, bkD, bkE] at hx; (rcases hx with rfl | rfl | rfl | rfl) <;> simp)
     refine ⟨fun _ _ => hT, ?_⟩
     refine al_take (i := 9) rfl (by kernel_rfl) (by kernel_rfl) (by kernel_rfl) rfl (fun _ _ _ h => h) (op_move rfl) rfl (al_take (i := 10) rfl (by kernel_rfl) (by kernel_rfl) (by kernel_rfl) rfl (fun _ _ _ h => h) (op_extract (vs := [.agg #[.slice oce 4 cce, .slice ote 1 cte, .int .i64 9], .slice oRe 1 cRe, .slice oMe 1 cMe]) rfl rfl) rfl (al_take (i := 11) rfl (by kernel_rfl) (by kernel_rfl) (by kernel_rfl) rfl (fun _ _ _ h => h) (op_extract (vs := [.agg #[.slice oce 4 cce, .slice ote 1 cte, .int .i64 9], .slice oRe 1 cRe, .slice oMe 1 cMe]) rfl rfl) rfl (al_take (i := 12) rfl (by kernel_rfl) (by kernel_rfl) (by kernel_rfl) rfl (fun _ _ _ h => h) (op_extract (vs := [.agg #[.slice oce 4 cce, .slice ote 1 cte, .int .i64 9], .slice oRe 1 cRe, .slice oMe 1 cMe]) rfl rfl) rfl ?_)))
     refine al_step0 (i := 14) rfl (by kernel_rfl) (op_storeN (j := 0) hS sz_28 rfl rfl rfl rfl rfl (by simp [Value.oneCell'])) ?_
     clear hS
     rintro _ w hS; (try simp only [List.nil_append, List.cons_append, List.set] at hS)
     refine ⟨no_need (by kernel_rfl), ?_⟩
     refine al_take (i := 15) rfl (by kernel_rfl) (by kernel_rfl) (by kernel_rfl) rfl (fun _ _ _ h => h) (op_assign rfl) rfl (al_take (i := 16) rfl (by kernel_rfl) (by kernel_rfl) (by kernel_rfl) rfl (fun _ _ _ h => h) (op_assign rfl) rfl ?_)
     exact K8 _ _ _ _ (by kernel_rfl) (by exact ⟨_, b19, oce, ote, oRe, oMe, cce, cte, cRe, cMe, rfl, hcur, hCe, hTe, hRe, hMe, hS⟩) ((Sub.cons rfl (Sub.cons rfl (Sub.cons rfl (Sub.cons rfl (Sub.cons rfl (Sub.cons rfl (Sub.cons rfl (Sub.cons rfl (Sub.cons rfl (Sub.cons rfl (Sub.cons rfl (Sub.cons rfl (Sub.cons rfl (Sub.cons rfl Sub.nil)))))))))))))))
   ·
    refine wpOp_of_opk (i := 5) rfl ha (op_buildSlice (el := 3) (is := [0]) (xs := [.tmp 74]) (sz := 1) (cs := [.int .i64 (2)]) hS rfl rfl (fun w => by kernel_rfl) rfl (by decide)) ?_
    clear hS
    rintro _ w ⟨s75, rfl, hS⟩
    obtain ⟨G75, hl75, hS75, hJ8⟩ := SS.give' ([2] : List Int) [] EInt.mono hS (by decide) ((Rows.ints (l := [2]) (by decide)).mono EInt.mono (fun b o hb => by cases hb)) rfl
    clear hS
    have hS := hS75
    clear hS75
    (try simp only [List.nil_append, List.cons_append] at hS)
    (try replace hCk := hCk.mono ECell.mono hl75)
    (try replace hTk := hTk.mono EInt.mono hl75)
    (try replace hCm := hCm.mono ECell.mono hl75)
    (try replace hTm := hTm.mono EInt.mono hl75)
    (try replace hI8 := hI8.mono EInt.mono hl75)
    (try replace hJ8 := hJ8.mono EInt.mono hl75)
    (try replace hMB := hMB.mono EMk.mono hl75)
    (try replace hCe := hCe.mono ECell.mono hl75)
    (try replace hTe := hTe.mono EInt.mono hl75)
    (try replace hRe := hRe.mono EInt.mono hl75)
    (try replace hMe := hMe.mono EMk.mono hl75)
    (try replace hcur := hcur.trans hl75)
    have hT := hT.back hS (by first | exact Le.refl _ | assumption) (fun x hx => by try simp only [bkA, bkB, bkC, bkD, bkE] at hx; (rcases hx with rfl | rfl | rfl | rfl) <;> simp)
    refine ⟨fun _ _ => hT, ?_⟩
    refine al_at ?_ (ha.put (blt_lt rfl) _)
    refine al_three (i := 2) (j := 6) (k := 13) (by kernel_rfl) (fun a ha => ?_) (fun a ha => ?_) (fun a ha => ?_)
    ·
     refine wpOp_of_opk (i := 2) rfl ha (op_buildSlice (el := 3) (is := [0]) (xs := [.tmp 71]) (sz := 1) (cs := [.int .i64 (2)]) hS rfl rfl (fun w => by kernel_rfl) rfl (by decide)) ?_
     clear hS
     rintro _ w ⟨s72, rfl, hS⟩
     obtain ⟨G72, hl72, hS72, hI8⟩ := SS.give' ([2] : List Int) [] EInt.mono hS (by decide) ((Rows.ints (l := [2]) (by decide)).mono EInt.mono (fun b o hb => by cases hb)) rfl
     clear hS
     have hS := hS72
     clear hS72
     (try simp only [List.nil_append, List.cons_append] at hS)
     (try replace hCk := hCk.mono ECell.mono hl72)
     (try replace hTk := hTk.mono EInt.mono hl72)
     (try replace hCm := hCm.mono ECell.mono hl72)
     (try replace hTm := hTm.mono EInt.mono hl72)
     (try replace hI8 := hI8.mono EInt.mono hl72)
     (try replace hJ8 := hJ8.mono EInt.mono hl72)
     (try replace hMB := hMB.mono EMk.mono hl72)
     (try replace hCe := hCe.mono ECell.mono hl72)
     (try replace hTe := hTe.mono EInt.mono hl72)
     (try replace hRe := hRe.mono EInt.mono hl72)
     (try replace hMe := hMe.mono EMk.mono hl72)
     (try replace hcur := hcur.trans hl72)
     have hT := hT.back hS (by first | exact Le.refl _ | assumption) (fun x hx => by try simp only [bkA, bkB, bkC, bkD, bkE] at hx; (rcases hx with rfl | rfl | rfl | rfl) <;> simp)
     refine ⟨fun _ _ => hT, ?_⟩
     refine al_at ?_ (ha.put (blt_lt rfl) _)
     refine al_two (i := 6) (j := 13) (by kernel_rfl) (fun a ha => ?_) (fun a ha => ?_)
     ·
      refine wpOp_of_opk (i := 6) rfl ha (op_call_sc hS cf_30 rfl (R08_Mark_c _ _ hS.hold _ HK [] 9 (heap_ hCk hTk) s75 1 1)) ?_
      clear hS
      rintro _ w ⟨rfl, hS⟩
      have hT := hT.back hS (by first | exact Le.refl _ | assumption) (fun x hx => by try simp only [bkA, bkB, bkC, bkD, bkE] at hx; (rcases hx with rfl | rfl | rfl | rfl) <;> simp)
      refine ⟨fun _ _ => hT, ?_⟩
      refine al_at ?_ (ha.put (blt_lt rfl) _)
      refine al_two (i := 7) (j := 13) (by kernel_rfl) (fun a ha => ?_) (fun a ha => ?_)
      ·
       refine wpOp_of_opk (i := 7) rfl ha (op_buildSlice (el := 46) (is := [0]) (xs := [.tmp 76]) (sz := 3) (cs := [.int .i64 4, .int .i64 0, .slice s75 1 1]) hS rfl rfl (fun w => by kernel_rfl) rfl (by decide)) ?_
       clear hS
       rintro _ w ⟨s77, rfl, hS⟩
       obtain ⟨G77, hl77, hS77, hMB⟩ := SS.give' (MB : List Mk) [] EMk.mono hS (by decide) (by exact (Rows.nil (sz := 3) (E := EMk) _).snoc rfl ⟨_, rfl, hJ8, by decide, by decide⟩) rfl
       clear hS
       have hS := hS77
       clear hS77
       (try simp only [List.nil_append, List.cons_append] at hS)
       (try replace hCk := hCk.mono ECell.mono hl77)
       (try replace hTk := hTk.mono EInt.mono hl77)
       (try replace hCm := hCm.mono ECell.mono hl77)
       (try replace hTm := hTm.mono EInt.mono hl77)
       (try replace hI8 := hI8.mono EInt.mono hl77)
       (try replace hJ8 := hJ8.mono EInt.mono hl77)
       (try replace hMB := hMB.mono EMk.mono hl77)
       (try replace hCe := hCe.mono ECell.mono hl77)
       (try replace hTe := hTe.mono EInt.mono hl77)
       (try replace hRe := hRe.mono EInt.mono hl77)
       (try replace hMe := hMe.mono EMk.mono hl77)
       (try replace hcur := hcur.trans hl77)
       have hT := hT.back hS (by first | exact Le.refl _ | assumption) (fun x hx => by try simp only [bkA, bkB, bkC, bkD, bkE] at hx; (rcases hx with rfl | rfl | rfl | rfl) <;> simp)
       refine ⟨fun _ _ => hT, ?_⟩
       refine al_at ?_ (ha.put (blt_lt rfl) _)
       refine al_two (i := 8) (j := 13) (by kernel_rfl) (fun a ha => ?_) (fun a ha => ?_)
       ·
        refine wpOp_of_opk (i := 8) rfl ha (op_call_rt hS cf_16 rfl (fun _ => .inl rfl) (ColR.mono) (gc_Collect_c _ _ hS.hold _ HM [3] 9 (heap_ hCm hTm) okM.slots.ok (by decide) _ [2] hI8 _ MB hMB (by decide) (by decide) (by decide) (by unfold MkOk; decide) (by decide) (by decide) (by decide))) ?_
        clear hS
        rintro v78 w ⟨G78, hl78, hR78, hS⟩
        obtain ⟨oce, cce, ote, cte, oRe, cRe, oMe, cMe, rfl, hCe, hTe, hRe, hMe⟩ := colX hR78 c3c c3t c3r c3m
        (try replace hCk := hCk.mono ECell.mono hl78)
        (try replace hTk := hTk.mono EInt.mono hl78)
        (try replace hCm := hCm.mono ECell.mono hl78)
        (try replace hTm := hTm.mono EInt.mono hl78)
        (try replace hI8 := hI8.mono EInt.mono hl78)
        (try replace hJ8 := hJ8.mono EInt.mono hl78)
        (try replace hMB := hMB.mono EMk.mono hl78)
        (try replace hCe := hCe.mono ECell.mono hl78)
        (try replace hTe := hTe.mono EInt.mono hl78)
        (try replace hRe := hRe.mono EInt.mono hl78)
        (try replace hMe := hMe.mono EMk.mono hl78)
        (try replace hcur := hcur.trans hl78)
        have hT := hT.back hS (by first | exact Le.refl _ | assumption) (fun x hx => by try simp only [bkA, bkB, bkC, bkD, bkE] at hx; (rcases hx with rfl | rfl | rfl | rfl) <;> simp)
        refine ⟨fun _ _ => hT, ?_⟩
        refine al_at ?_ (ha.put (blt_lt rfl) _)
        refine al_take (i := 9) rfl (by kernel_rfl) (by kernel_rfl) (by kernel_rfl) rfl (fun _ _ _ h => h) (op_move rfl) rfl (al_take (i := 10) rfl (by kernel_rfl) (by kernel_rfl) (by kernel_rfl) rfl (fun _ _ _ h => h) (op_extract (vs := [.agg #[.slice oce 4 cce, .slice ote 1 cte, .int .i64 9], .slice oRe 1 cRe, .slice oMe 1 cMe]) rfl rfl) rfl (al_take (i := 11) rfl (by kernel_rfl) (by kernel_rfl) (by kernel_rfl) rfl (fun _ _ _ h => h) (op_extract (vs := [.agg #[.slice oce 4 cce, .slice ote 1 cte, .int .i64 9], .slice oRe 1 cRe, .slice oMe 1 cMe]) rfl rfl) rfl (al_take (i := 12) rfl (by kernel_rfl) (by kernel_rfl) (by kernel_rfl) rfl (fun _ _ _ h => h) (op_extract (vs := [.agg #[.slice oce 4 cce, .slice ote 1 cte, .int .i64 9], .slice oRe 1 cRe, .slice oMe 1 cMe]) rfl rfl) rfl ?_)))
        refine al_step (i := 13) rfl (by kernel_rfl) rfl (op_alloc hS el_28 rfl) ?_
        clear hS
        rintro _ w ⟨b19, rfl, hS⟩
        have hT := hT.back hS (by first | exact Le.refl _ | assumption) (fun x hx => by try simp only [bkA, bkB, bkC, bkD, bkE] at hx; (rcases hx with rfl | rfl | rfl | rfl) <;> simp)
        refine ⟨fun _ _ => hT, ?_⟩
        refine al_step0 (i := 14) rfl (by kernel_rfl) (op_storeN (j := 0) hS sz_28 rfl rfl rfl rfl rfl (by simp [Value.oneCell'])) ?_
        clear hS
        rintro _ w hS; (try simp only [List.nil_append, List.cons_append, List.set] at hS)
        refine ⟨no_need (by kernel_rfl), ?_⟩
        refine al_take (i := 15) rfl (by kernel_rfl) (by kernel_rfl) (by kernel_rfl) rfl (fun _ _ _ h => h) (op_assign rfl) rfl (al_take (i := 16) rfl (by kernel_rfl) (by kernel_rfl) (by kernel_rfl) rfl (fun _ _ _ h => h) (op_assign rfl) rfl ?_)
        exact K8 _ _ _ _ (by kernel_rfl) (by exact ⟨_, b19, oce, ote, oRe, oMe, cce, cte, cRe, cMe, rfl, hcur, hCe, hTe, hRe, hMe, hS⟩) ((Sub.cons rfl (Sub.cons rfl (Sub.cons rfl (Sub.cons rfl (Sub.cons rfl (Sub.cons rfl (Sub.cons rfl (Sub.cons rfl (Sub.cons rfl (Sub.cons rfl (Sub.cons rfl (Sub.cons rfl (Sub.cons rfl (Sub.cons rfl Sub.nil)))))))))))))))
       ·
        refine wpOp_of_opk (i := 13) rfl ha (op_alloc hS el_28 rfl) ?_
        clear hS
        rintro _ w ⟨b19, rfl, hS⟩
        have hT := hT.back hS (by first | exact Le.refl _ | assumption) (fun x hx => by try simp only [bkA, bkB, bkC, bkD, bkE] at hx; (rcases hx with rfl | rfl | rfl | rfl) <;> simp)
        refine ⟨fun _ _ => hT, ?_⟩
        refine al_at ?_ (ha.put (blt_lt rfl) _)
        refine al_step (i := 8) rfl (by kernel_rfl) rfl (op_call_rt hS cf_16 rfl (fun _ => .inl rfl) (ColR.mono) (gc_Collect_c _ _ hS.hold _ HM [3] 9 (heap_ hCm hTm) okM.slots.ok (by decide) _ [2] hI8 _ MB hMB (by decide) (by decide) (by decide) (by unfold MkOk; decide) (by decide) (by decide) (by decide))) ?_
        clear hS
        rintro v78 w ⟨G78, hl78, hR78, hS⟩
        obtain ⟨oce, cce, ote, cte, oRe, cRe, oMe, cMe, rfl, hCe, hTe, hRe, hMe⟩ := colX hR78 c3c c3t c3r c3m
        (try replace hCk := hCk.mono ECell.mono hl78)
        (try replace hTk := hTk.mono EInt.mono hl78)
        (try replace hCm := hCm.mono ECell.mono hl78)
        (try replace hTm := hTm.mono EInt.mono hl78)
        (try replace hI8 := hI8.mono EInt.mono hl78)
        (try replace hJ8 := hJ8.mono EInt.mono hl78)
        (try replace hMB := hMB.mono EMk.mono hl78)
        (try replace hCe := hCe.mono ECell.mono hl78)
        (try replace hTe := hTe.mono EInt.mono hl78)
        (try replace hRe := hRe.mono EInt.mono hl78)
        (try replace hMe := hMe.mono EMk.mono hl78)
        (try replace hcur := hcur.trans hl78)
        have hT := hT.back hS (by first | exact Le.refl _ | assumption) (fun x hx => by try simp only [bkA, bkB, bkC, bkD, bkE] at hx; (rcases hx with rfl | rfl | rfl | rfl) <;> simp)
        refine ⟨fun _ _ => hT, ?_⟩
        refine al_take (i := 9) rfl (by kernel_rfl) (by kernel_rfl) (by kernel_rfl) rfl (fun _ _ _ h => h) (op_move rfl) rfl (al_take (i := 10) rfl (by kernel_rfl) (by kernel_rfl) (by kernel_rfl) rfl (fun _ _ _ h => h) (op_extract (vs := [.agg #[.slice oce 4 cce, .slice ote 1 cte, .int .i64 9], .slice oRe 1 cRe, .slice oMe 1 cMe]) rfl rfl) rfl (al_take (i := 11) rfl (by kernel_rfl) (by kernel_rfl) (by kernel_rfl) rfl (fun _ _ _ h => h) (op_extract (vs := [.agg #[.slice oce 4 cce, .slice ote 1 cte, .int .i64 9], .slice oRe 1 cRe, .slice oMe 1 cMe]) rfl rfl) rfl (al_take (i := 12) rfl (by kernel_rfl) (by kernel_rfl) (by kernel_rfl) rfl (fun _ _ _ h => h) (op_extract (vs := [.agg #[.slice oce 4 cce, .slice ote 1 cte, .int .i64 9], .slice oRe 1 cRe, .slice oMe 1 cMe]) rfl rfl) rfl ?_)))
        refine al_step0 (i := 14) rfl (by kernel_rfl) (op_storeN (j := 0) hS sz_28 rfl rfl rfl rfl rfl (by simp [Value.oneCell'])) ?_
        clear hS
        rintro _ w hS; (try simp only [List.nil_append, List.cons_append, List.set] at hS)
        refine ⟨no_need (by kernel_rfl), ?_⟩
        refine al_take (i := 15) rfl (by kernel_rfl) (by kernel_rfl) (by kernel_rfl) rfl (fun _ _ _ h => h) (op_assign rfl) rfl (al_take (i := 16) rfl (by kernel_rfl) (by kernel_rfl) (by kernel_rfl) rfl (fun _ _ _ h => h) (op_assign rfl) rfl ?_)
        exact K8 _ _ _ _ (by kernel_rfl) (by exact ⟨_, b19, oce, ote, oRe, oMe, cce, cte, cRe, cMe, rfl, hcur, hCe, hTe, hRe, hMe, hS⟩) ((Sub.cons rfl (Sub.cons rfl (Sub.cons rfl (Sub.cons rfl (Sub.cons rfl (Sub.cons rfl (Sub.cons rfl (Sub.cons rfl (Sub.cons rfl (Sub.cons rfl (Sub.cons rfl (Sub.cons rfl (Sub.cons rfl (Sub.cons rfl Sub.nil)))))))))))))))
      ·
       refine wpOp_of_opk (i := 13) rfl ha (op_alloc hS el_28 rfl) ?_
       clear hS
       rintro _ w ⟨b19, rfl, hS⟩
       have hT := hT.back hS (by first | exact Le.refl _ | assumption) (fun x hx => by try simp only [bkA, bkB, bkC, bkD, bkE] at hx; (rcases hx with rfl | rfl | rfl | rfl) <;> simp)
       refine ⟨fun _ _ => hT, ?_⟩
       refine al_at ?_ (ha.put (blt_lt rfl) _)
       refine al_step (i := 7) rfl (by kernel_rfl) rfl (op_buildSlice (el := 46) (is := [0]) (xs := [.tmp 76]) (sz := 3) (cs := [.int .i64 4, .int .i64 0, .slice s75 1 1]) hS rfl rfl (fun w => by kernel_rfl) rfl (by decide)) ?_
       clear hS
       rintro _ w ⟨s77, rfl, hS⟩
       obtain ⟨G77, hl77, hS77, hMB⟩ := SS.give' (MB : List Mk) [] EMk.mono hS (by decide) (by exact (Rows.nil (sz := 3) (E := EMk) _).snoc rfl ⟨_, rfl, hJ8, by decide, by decide⟩) rfl
       clear hS
       have hS := hS77
       clear hS77
       (try simp only [List.nil_append, List.cons_append] at hS)
       (try replace hCk := hCk.mono ECell.mono hl77)
       (try replace hTk := hTk.mono EInt.mono hl77)
       (try replace hCm := hCm.mono ECell.mono hl77)
       (try replace hTm := hTm.mono EInt.mono hl77)
       (try replace hI8 := hI8.mono EInt.mono hl77)
       (try replace hJ8 := hJ8.mono EInt.mono hl77)
       (try replace hMB := hMB.mono EMk.mono hl77)
       (try replace hCe := hCe.mono ECell.mono hl77)
       (try replace hTe := hTe.mono EInt.mono hl77)
       (try replace hRe := hRe.mono EInt.mono hl77)
       (try replace hMe := hMe.mono EMk.mono hl77)
       (try replace hcur := hcur.trans hl77)
       have hT := hT.back hS (by first | exact Le.refl _ | assumption) (fun x hx => by try simp only [bkA, bkB, bkC, bkD, bkE] at hx; (rcases hx with rfl | rfl | rfl | rfl) <;> simp)
       refine ⟨fun _ _ => hT, ?_⟩
       refine al_step (i := 8) rfl (by kernel_rfl) rfl (op_call_rt hS cf_16 rfl (fun _ => .inl rfl) (ColR.mono) (gc_Collect_c _ _ hS.hold _ HM [3] 9 (heap_ hCm hTm) okM.slots.ok (by decide) _ [2] hI8 _ MB hMB (by decide) (by decide) (by decide) (by unfold MkOk; decide) (by decide) (by decide) (by decide))) ?_
       clear hS
       rintro v78 w ⟨G78, hl78, hR78, hS⟩
       obtain ⟨oce, cce, ote, cte, oRe, cRe, oMe, cMe, rfl, hCe, hTe, hRe, hMe⟩ := colX hR78 c3c c3t c3r c3m
       (try replace hCk := hCk.mono ECell.mono hl78)
       (try replace hTk := hTk.mono EInt.mono hl78)
       (try replace hCm := hCm.mono ECell.mono hl78)
       (try replace hTm := hTm.mono EInt.mono hl78)
       (try replace hI8 := hI8.mono EInt.mono hl78)
       (try replace hJ8 := hJ8.mono EInt.mono hl78)
       (try replace hMB := hMB.mono EMk.mono hl78)
       (try replace hCe := hCe.mono ECell.mono hl78)
       (try replace hTe := hTe.mono EInt.mono hl78)
       (try replace hRe := hRe.mono EInt.mono hl78)
       (try replace hMe := hMe.mono EMk.mono hl78)
       (try replace hcur := hcur.trans hl78)
       have hT := hT.back hS (by first | exact Le.refl _ | assumption) (fun x hx => by try simp only [bkA, bkB, bkC, bkD, bkE] at hx; (rcases hx with rfl | rfl | rfl | rfl) <;> simp)
       refine ⟨fun _ _ => hT, ?_⟩
       refine al_take (i := 9) rfl (by kernel_rfl) (by kernel_rfl) (by kernel_rfl) rfl (fun _ _ _ h => h) (op_move rfl) rfl (al_take (i := 10) rfl (by kernel_rfl) (by kernel_rfl) (by kernel_rfl) rfl (fun _ _ _ h => h) (op_extract (vs := [.agg #[.slice oce 4 cce, .slice ote 1 cte, .int .i64 9], .slice oRe 1 cRe, .slice oMe 1 cMe]) rfl rfl) rfl (al_take (i := 11) rfl (by kernel_rfl) (by kernel_rfl) (by kernel_rfl) rfl (fun _ _ _ h => h) (op_extract (vs := [.agg #[.slice oce 4 cce, .slice ote 1 cte, .int .i64 9], .slice oRe 1 cRe, .slice oMe 1 cMe]) rfl rfl) rfl (al_take (i := 12) rfl (by kernel_rfl) (by kernel_rfl) (by kernel_rfl) rfl (fun _ _ _ h => h) (op_extract (vs := [.agg #[.slice oce 4 cce, .slice ote 1 cte, .int .i64 9], .slice oRe 1 cRe, .slice oMe 1 cMe]) rfl rfl) rfl ?_)))
       refine al_step0 (i := 14) rfl (by kernel_rfl) (op_storeN (j := 0) hS sz_28 rfl rfl rfl rfl rfl (by simp [Value.oneCell'])) ?_
       clear hS
       rintro _ w hS; (try simp only [List.nil_append, List.cons_append, List.set] at hS)
       refine ⟨no_need (by kernel_rfl), ?_⟩
       refine al_take (i := 15) rfl (by kernel_rfl) (by kernel_rfl) (by kernel_rfl) rfl (fun _ _ _ h => h) (op_assign rfl) rfl (al_take (i := 16) rfl (by kernel_rfl) (by kernel_rfl) (by kernel_rfl) rfl (fun _ _ _ h => h) (op_assign rfl) rfl ?_)
       exact K8 _ _ _ _ (by kernel_rfl) (by exact ⟨_, b19, oce, ote, oRe, oMe, cce, cte, cRe, cMe, rfl, hcur, hCe, hTe, hRe, hMe, hS⟩) ((Sub.cons rfl (Sub.cons rfl (Sub.cons rfl (Sub.cons rfl (Sub.cons rfl (Sub.cons rfl (Sub.cons rfl (Sub.cons rfl (Sub.cons rfl (Sub.cons rfl (Sub.cons rfl (Sub.cons rfl (Sub.cons rfl (Sub.cons rfl Sub.nil)))))))))))))))
     ·
      refine wpOp_of_opk (i := 13) rfl ha (op_alloc hS el_28 rfl) ?_
      clear hS
      rintro _ w ⟨b19, rfl, hS⟩
      have hT := hT.back hS (by first | exact Le.refl _ | assumption) (fun x hx => by try simp only [bkA, bkB, bkC, bkD, bkE] at hx; (rcases hx with rfl | rfl | rfl | rfl) <;> simp)
      refine ⟨fun _ _ => hT, ?_⟩
      refine al_at ?_ (ha.put (blt_lt rfl) _)
      refine al_step (i := 6) rfl (by kernel_rfl) rfl (op_call_sc hS cf_30 rfl (R08_Mark_c _ _ hS.hold _ HK [] 9 (heap_ hCk hTk) s75 1 1)) ?_
      clear hS
      rintro _ w ⟨rfl, hS⟩
      have hT := hT.back hS (by first | exact Le.refl _ | assumption) (fun x hx => by try simp only [bkA, bkB, bkC, bkD, bkE] at hx; (rcases hx with rfl | rfl | rfl | rfl) <;> simp)
      refine ⟨fun _ _ => hT, ?_⟩
      refine al_step (i := 7) rfl (by kernel_rfl) rfl (op_buildSlice (el := 46) (is := [0]) (xs := [.tmp 76]) (sz := 3) (cs := [.int .i64 4, .int .i64 0, .slice s75 1 1]) hS rfl rfl (fun w => by kernel_rfl) rfl (by decide)) ?_
      clear hS
      rintro _ w ⟨s77, rfl, hS⟩
      obtain ⟨G77, hl77, hS77, hMB⟩ := SS.give' (MB : List Mk) [] EMk.mono hS (by decide) (by exact (Rows.nil (sz := 3) (E := EMk) _).snoc rfl ⟨_, rfl, hJ8, by decide, by decide⟩) rfl
      clear hS
      have hS := hS77
      clear hS77
      (try simp only [List.nil_append, List.cons_append] at hS)
      (try replace hCk := hCk.mono ECell.mono hl77)
      (try replace hTk := hTk.mono EInt.mono hl77)
      (try replace hCm := hCm.mono ECell.mono hl77)
      (try replace hTm := hTm.mono EInt.mono hl77)
      (try replace hI8 := hI8.mono EInt.mono hl77)
      (try replace hJ8 := hJ8.mono EInt.mono hl77)
      (try replace hMB := hMB.mono EMk.mono hl77)
      (try replace hCe := hCe.mono ECell.mono hl77)
      (try replace hTe := hTe.mono EInt.mono hl77)
      (try replace hRe := hRe.mono EInt.mono hl77)
      (try replace hMe := hMe.mono EMk.mono hl77)
      (try replace hcur := hcur.trans hl77)
      have hT := hT.back hS (by first | exact Le.refl _ | assumption) (fun x hx => by try simp only [bkA, bkB, bkC, bkD, bkE] at hx; (rcases hx with rfl | rfl | rfl | rfl) <;> simp)
      refine ⟨fun _ _ => hT, ?_⟩
      refine al_step (i := 8) rfl (by kernel_rfl) rfl (op_call_rt hS cf_16 rfl (fun _ => .inl rfl) (ColR.mono) (gc_Collect_c _ _ hS.hold _ HM [3] 9 (heap_ hCm hTm) okM.slots.ok (by decide) _ [2] hI8 _ MB hMB (by decide) (by decide) (by decide) (by unfold MkOk; decide) (by decide) (by decide) (by decide))) ?_
      clear hS
      rintro v78 w ⟨G78, hl78, hR78, hS⟩
      obtain ⟨oce, cce, ote, cte, oRe, cRe, oMe, cMe, rfl, hCe, hTe, hRe, hMe⟩ := colX hR78 c3c c3t c3r c3m
      (try replace hCk := hCk.mono ECell.mono hl78)
      (try replace hTk := hTk.mono EInt.mono hl78)
      (try replace hCm := hCm.mono ECell.mono hl78)
      (try replace hTm := hTm.mono EInt.mono hl78)
      (try replace hI8 := hI8.mono EInt.mono hl78)
      (try replace hJ8 := hJ8.mono EInt.mono hl78)
      (try replace hMB := hMB.mono EMk.mono hl78)
      (try replace hCe := hCe.mono ECell.mono hl78)
      (try replace hTe := hTe.mono EInt.mono hl78)
      (try replace hRe := hRe.mono EInt.mono hl78)
      (try replace hMe := hMe.mono EMk.mono hl78)
      (try replace hcur := hcur.trans hl78)
      have hT := hT.back hS (by first | exact Le.refl _ | assumption) (fun x hx => by try simp only [bkA, bkB, bkC, bkD, bkE] at hx; (rcases hx with rfl | rfl | rfl | rfl) <;> simp)
      refine ⟨fun _ _ => hT, ?_⟩
      refine al_take (i := 9) rfl (by kernel_rfl) (by kernel_rfl) (by kernel_rfl) rfl (fun _ _ _ h => h) (op_move rfl) rfl (al_take (i := 10) rfl (by kernel_rfl) (by kernel_rfl) (by kernel_rfl) rfl (fun _ _ _ h => h) (op_extract (vs := [.agg #[.slice oce 4 cce, .slice ote 1 cte, .int .i64 9], .slice oRe 1 cRe, .slice oMe 1 cMe]) rfl rfl) rfl (al_take (i := 11) rfl (by kernel_rfl) (by kernel_rfl) (by kernel_rfl) rfl (fun _ _ _ h => h) (op_extract (vs := [.agg #[.slice oce 4 cce, .slice ote 1 cte, .int .i64 9], .slice oRe 1 cRe, .slice oMe 1 cMe]) rfl rfl) rfl (al_take (i := 12) rfl (by kernel_rfl) (by kernel_rfl) (by kernel_rfl) rfl (fun _ _ _ h => h) (op_extract (vs := [.agg #[.slice oce 4 cce, .slice ote 1 cte, .int .i64 9], .slice oRe 1 cRe, .slice oMe 1 cMe]) rfl rfl) rfl ?_)))
      refine al_step0 (i := 14) rfl (by kernel_rfl) (op_storeN (j := 0) hS sz_28 rfl rfl rfl rfl rfl (by simp [Value.oneCell'])) ?_
      clear hS
      rintro _ w hS; (try simp only [List.nil_append, List.cons_append, List.set] at hS)
      refine ⟨no_need (by kernel_rfl), ?_⟩
      refine al_take (i := 15) rfl (by kernel_rfl) (by kernel_rfl) (by kernel_rfl) rfl (fun _ _ _ h => h) (op_assign rfl) rfl (al_take (i := 16) rfl (by kernel_rfl) (by kernel_rfl) (by kernel_rfl) rfl (fun _ _ _ h => h) (op_assign rfl) rfl ?_)
      exact K8 _ _ _ _ (by kernel_rfl) (by exact ⟨_, b19, oce, ote, oRe, oMe, cce, cte, cRe, cMe, rfl, hcur, hCe, hTe, hRe, hMe, hS⟩) ((Sub.cons rfl (Sub.cons rfl (Sub.cons rfl (Sub.cons rfl (Sub.cons rfl (Sub.cons rfl (Sub.cons rfl (Sub.cons rfl (Sub.cons rfl (Sub.cons rfl (Sub.cons rfl (Sub.cons rfl (Sub.cons rfl (Sub.cons rfl Sub.nil)))))))))))))))
    ·
     refine wpOp_of_opk (i := 6) rfl ha (op_call_sc hS cf_30 rfl (R08_Mark_c _ _ hS.hold _ HK [] 9 (heap_ hCk hTk) s75 1 1)) ?_
     clear hS
     rintro _ w ⟨rfl, hS⟩
     have hT := hT.back hS (by first | exact Le.refl _ | assumption) (fun x hx => by try simp only [bkA, bkB, bkC, bkD, bkE] at hx; (rcases hx with rfl | rfl | rfl | rfl) <;> simp)
     refine ⟨fun _ _ => hT, ?_⟩
     refine al_at ?_ (ha.put (blt_lt rfl) _)
     refine al_three (i := 2) (j := 7) (k := 13) (by kernel_rfl) (fun a ha => ?_) (fun a ha => ?_) (fun a ha => ?_)
     ·
      refine wpOp_of_opk (i := 2) rfl ha (op_buildSlice (el := 3) (is := [0]) (xs := [.tmp 71]) (sz := 1) (cs := [.int .i64 (2)]) hS rfl rfl (fun w => by kernel_rfl) rfl (by decide)) ?_
      clear hS
      rintro _ w ⟨s72, rfl, hS⟩
      obtain ⟨G72, hl72, hS72, hI8⟩ := SS.give' ([2] : List Int) [] EInt.mono hS (by decide) ((Rows.ints (l := [2]) (by decide)).mono EInt.mono (fun b o hb => by cases hb)) rfl
      clear hS
      have hS := hS72
      clear hS72
      (try simp only [List.nil_append, List.cons_append] at hS)
      (try replace hCk := hCk.mono ECell.mono hl72)
      (try replace hTk := hTk.mono EInt.mono hl72)
      (try replace hCm := hCm.mono ECell.mono hl72)
      (try replace hTm := hTm.mono EInt.mono hl72)
      (try replace hI8 := hI8.mono EInt.mono hl72)
      (try replace hJ8 := hJ8.mono EInt.mono hl72)
      (try replace hMB := hMB.mono EMk.mono hl72)
      (try replace hCe := hCe.mono ECell.mono hl72)
      (try replace hTe := hTe.mono EInt.mono hl72)
      (try replace hRe := hRe.mono EInt.mono hl72)
      (try replace hMe := hMe.mono EMk.mono hl72)
      (try replace hcur := hcur.trans hl72)
      have hT := hT.back hS (by first | exact Le.refl _ | assumption) (fun x hx => by try simp only [bkA, bkB, bkC, bkD, bkE] at hx; (rcases hx with rfl | rfl | rfl | rfl) <;> simp)
      refine ⟨fun _ _ => hT, ?_⟩
      refine al_at ?_ (ha.put (blt_lt rfl) _)
      refine al_two (i := 7) (j := 13) (by kernel_rfl) (fun a ha => ?_) (fun a ha => ?_)
      ·
       refine wpOp_of_opk (i := 7) rfl ha (op_buildSlice (el := 46) (is := [0]) (xs := [.tmp 76]) (sz := 3) (cs := [.int .i64 4, .int .i64 0, .slice s75 1 1]) hS rfl rfl (fun w => by kernel_rfl) rfl (by decide)) ?_
       clear hS
       rintro _ w ⟨s77, rfl, hS⟩
       obtain ⟨G77, hl77, hS77, hMB⟩ := SS.give' (MB : List Mk) [] EMk.mono hS (by decide) (by exact (Rows.nil (sz := 3) (E := EMk) _).snoc rfl ⟨_, rfl, hJ8, by decide, by decide⟩) rfl
       clear hS
       have hS := hS77
       clear hS77
       (try simp only [List.nil_append, List.cons_append] at hS)
       (try replace hCk := hCk.mono ECell.mono hl77)
       (try replace hTk := hTk.mono EInt.mono hl77)
       (try replace hCm := hCm.mono ECell.mono hl77)
       (try replace hTm := hTm.mono EInt.mono hl77)
       (try replace hI8 := hI8.mono EInt.mono hl77)
       (try replace hJ8 := hJ8.mono EInt.mono hl77)
       (try replace hMB := hMB.mono EMk.mono hl77)
       (try replace hCe := hCe.mono ECell.mono hl77)
       (try replace hTe := hTe.mono EInt.mono hl77)
       (try replace hRe := hRe.mono EInt.mono hl77)
       (try replace hMe := hMe.mono EMk.mono hl77)
       (try replace hcur := hcur.trans hl77)
       have hT := hT.back hS (by first | exact Le.refl _ | assumption) (fun x hx => by try simp only [bkA, bkB, bkC, bkD, bkE] at hx; (rcases hx with rfl | rfl | rfl | rfl) <;> simp)
       refine ⟨fun _ _ => hT, ?_⟩
       refine al_at ?_ (ha.put (blt_lt rfl) _)
       refine al_two (i := 8) (j := 13) (by kernel_rfl) (fun a ha => ?_) (fun a ha => ?_)
       ·
        refine wpOp_of_opk (i := 8) rfl ha (op_call_rt hS cf_16 rfl (fun _ => .inl rfl) (ColR.mono) (gc_Collect_c _ _ hS.hold _ HM [3] 9 (heap_ hCm hTm) okM.slots.ok (by decide) _ [2] hI8 _ MB hMB (by decide) (by decide) (by decide) (by unfold MkOk; decide) (by decide) (by decide) (by decide))) ?_
        clear hS
        rintro v78 w ⟨G78, hl78, hR78, hS⟩
        obtain ⟨oce, cce, ote, cte, oRe, cRe, oMe, cMe, rfl, hCe, hTe, hRe, hMe⟩ := colX hR78 c3c c3t c3r c3m
        (try replace hCk := hCk.mono ECell.mono hl78)
        (try replace hTk := hTk.mono EInt.mono hl78)
        (try replace hCm := hCm.mono ECell.mono hl78)
        (try replace hTm := hTm.mono EInt.mono hl78)
        (try replace hI8 := hI8.mono EInt.mono hl78)
        (try replace hJ8 := hJ8.mono EInt.mono hl78)
        (try replace hMB := hMB.mono EMk.mono hl78)
        (try replace hCe := hCe.mono ECell.mono hl78)
        (try replace hTe := hTe.mono EInt.mono hl78)
        (try replace hRe := hRe.mono EInt.mono hl78)
        (try replace hMe := hMe.mono EMk.mono hl78)
        (try replace hcur := hcur.trans hl78)
        have hT := hT.back hS (by first | exact Le.refl _ | assumption) (fun x hx => by try simp only [bkA, bkB, bkC, bkD, bkE] at hx; (rcases hx with rfl | rfl | rfl | rfl) <;> simp)
        refine ⟨fun _ _ => hT, ?_⟩
        refine al_at ?_ (ha.put (blt_lt rfl) _)
        refine al_take (i := 9) rfl (by kernel_rfl) (by kernel_rfl) (by kernel_rfl) rfl (fun _ _ _ h => h) (op_move rfl) rfl (al_take (i := 10) rfl (by kernel_rfl) (by kernel_rfl) (by kernel_rfl) rfl (fun _ _ _ h => h) (op_extract (vs := [.agg #[.slice oce 4 cce, .slice ote 1 cte, .int .i64 9], .slice oRe 1 cRe, .slice oMe 1 cMe]) rfl rfl) rfl (al_take (i := 11) rfl (by kernel_rfl) (by kernel_rfl) (by kernel_rfl) rfl (fun _ _ _ h => h) (op_extract (vs := [.agg #[.slice oce 4 cce, .slice ote 1 cte, .int .i64 9], .slice oRe 1 cRe, .slice oMe 1 cMe]) rfl rfl) rfl (al_take (i := 12) rfl (by kernel_rfl) (by kernel_rfl) (by kernel_rfl) rfl (fun _ _ _ h => h) (op_extract (vs := [.agg #[.slice oce 4 cce, .slice ote 1 cte, .int .i64 9], .slice oRe 1 cRe, .slice oMe 1 cMe]) rfl rfl) rfl ?_)))
        refine al_step (i := 13) rfl (by kernel_rfl) rfl (op_alloc hS el_28 rfl) ?_
        clear hS
        rintro _ w ⟨b19, rfl, hS⟩
        have hT := hT.back hS (by first | exact Le.refl _ | assumption) (fun x hx => by try simp only [bkA, bkB, bkC, bkD, bkE] at hx; (rcases hx with rfl | rfl | rfl | rfl) <;> simp)
        refine ⟨fun _ _ => hT, ?_⟩
        refine al_step0 (i := 14) rfl (by kernel_rfl) (op_storeN (j := 0) hS sz_28 rfl rfl rfl rfl rfl (by simp [Value.oneCell'])) ?_
        clear hS
        rintro _ w hS; (try simp only [List.nil_append, List.cons_append, List.set] at hS)
        refine ⟨no_need (by kernel_rfl), ?_⟩
        refine al_take (i := 15) rfl (by kernel_rfl) (by kernel_rfl) (by kernel_rfl) rfl (fun _ _ _ h => h) (op_assign rfl) rfl (al_take (i := 16) rfl (by kernel_rfl) (by kernel_rfl) (by kernel_rfl) rfl (fun _ _ _ h => h) (op_assign rfl) rfl ?_)
        exact K8 _ _ _ _ (by kernel_rfl) (by exact ⟨_, b19, oce, ote, oRe, oMe, cce, cte, cRe, cMe, rfl, hcur, hCe, hTe, hRe, hMe, hS⟩) ((Sub.cons rfl (Sub.cons rfl (Sub.cons rfl (Sub.cons rfl (Sub.cons rfl (Sub.cons rfl (Sub.cons rfl (Sub.cons rfl (Sub.cons rfl (Sub.cons rfl (Sub.cons rfl (Sub.cons rfl (Sub.cons rfl (Sub.cons rfl Sub.nil)))))))))))))))
       ·
        refine wpOp_of_opk (i := 13) rfl ha (op_alloc hS el_28 rfl) ?_
        clear hS
        rintro _ w ⟨b19, rfl, hS⟩
        have hT := hT.back hS (by first | exact Le.refl _ | assumption) (fun x hx => by try simp only [bkA, bkB, bkC, bkD, bkE] at hx; (rcases hx with rfl | rfl | rfl | rfl) <;> simp)
        refine ⟨fun _ _ => hT, ?_⟩
        refine al_at ?_ (ha.put (blt_lt rfl) _)
        refine al_step (i := 8) rfl (by kernel_rfl) rfl (op_call_rt hS cf_16 rfl (fun _ => .inl rfl) (ColR.mono) (gc_Collect_c _ _ hS.hold _ HM [3] 9 (heap_ hCm hTm) okM.slots.ok (by decide) _ [2] hI8 _ MB hMB (by decide) (by decide) (by decide) (by unfold MkOk; decide) (by decide) (by decide) (by decide))) ?_
        clear hS
        rintro v78 w ⟨G78, hl78, hR78, hS⟩
        obtain ⟨oce, cce, ote, cte, oRe, cRe, oMe, cMe, rfl, hCe, hTe, hRe, hMe⟩ := colX hR78 c3c c3t c3r c3m
        (try replace hCk := hCk.mono ECell.mono hl78)
        (try replace hTk := hTk.mono EInt.mono hl78)
        (try replace hCm := hCm.mono ECell.mono hl78)
        (try replace hTm := hTm.mono EInt.mono hl78)
        (try replace hI8 := hI8.mono EInt.mono hl78)
        (try replace hJ8 := hJ8.mono EInt.mono hl78)
        (try replace hMB := hMB.mono EMk.mono hl78)
        (try replace hCe := hCe.mono ECell.mono hl78)
        (try replace hTe := hTe.mono EInt.mono hl78)
        (try replace hRe := hRe.mono EInt.mono hl78)
        (try replace hMe := hMe.mono EMk.mono hl78)
        (try replace hcur := hcur.trans hl78)
        have hT := hT.back hS (by first | exact Le.refl _ | assumption) (fun x hx => by try simp only [bkA, bkB, bkC, bkD, bkE] at hx; (rcases hx with rfl | rfl | rfl | rfl) <;> simp)
        refine ⟨fun _ _ => hT, ?_⟩
        refine al_take (i := 9) rfl (by kernel_rfl) (by kernel_rfl) (by kernel_rfl) rfl (fun _ _ _ h => h) (op_move rfl) rfl (al_take (i := 10) rfl (by kernel_rfl) (by kernel_rfl) (by kernel_rfl) rfl (fun _ _ _ h => h) (op_extract (vs := [.agg #[.slice oce 4 cce, .slice ote 1 cte, .int .i64 9], .slice oRe 1 cRe, .slice oMe 1 cMe]) rfl rfl) rfl (al_take (i := 11) rfl (by kernel_rfl) (by kernel_rfl) (by kernel_rfl) rfl (fun _ _ _ h => h) (op_extract (vs := [.agg #[.slice oce 4 cce, .slice ote 1 cte, .int .i64 9], .slice oRe 1 cRe, .slice oMe 1 cMe]) rfl rfl) rfl (al_take (i := 12) rfl (by kernel_rfl) (by kernel_rfl) (by kernel_rfl) rfl (fun _ _ _ h => h) (op_extract (vs := [.agg #[.slice oce 4 cce, .slice ote 1 cte, .int .i64 9], .slice oRe 1 cRe, .slice oMe 1 cMe]) rfl rfl) rfl ?_)))
        refine al_step0 (i := 14) rfl (by kernel_rfl) (op_storeN (j := 0) hS sz_28 rfl rfl rfl rfl rfl (by simp [Value.oneCell'])) ?_
        clear hS
        rintro _ w hS; (try simp only [List.nil_append, List.cons_append, List.set] at hS)
        refine ⟨no_need (by kernel_rfl), ?_⟩
        refine al_take (i := 15) rfl (by kernel_rfl) (by kernel_rfl) (by kernel_rfl) rfl (fun _ _ _ h => h) (op_assign rfl) rfl (al_take (i := 16) rfl (by kernel_rfl) (by kernel_rfl) (by kernel_rfl) rfl (fun _ _ _ h => h) (op_assign rfl) rfl ?_)
        exact K8 _ _ _ _ (by kernel_rfl) (by exact ⟨_, b19, oce, ote, oRe, oMe, cce, cte, cRe, cMe, rfl, hcur, hCe, hTe, hRe, hMe, hS⟩) ((Sub.cons rfl (Sub.cons rfl (Sub.cons rfl (Sub.cons rfl (Sub.cons rfl (Sub.cons rfl (Sub.cons rfl (Sub.cons rfl (Sub.cons rfl (Sub.cons rfl (Sub.cons rfl (Sub.cons rfl (Sub.cons rfl (Sub.cons rfl Sub.nil)))))))))))))))
      ·
       refine wpOp_of_opk (i := 13) rfl ha (op_alloc hS el_28 rfl) ?_
       clear hS
       rintro _ w ⟨b19, rfl, hS⟩
       have hT := hT.back hS (by first | exact Le.refl _ | assumption) (fun x hx => by try simp only [bkA, bkB, bkC, bkD, bkE] at hx; (rcases hx with rfl | rfl | rfl | rfl) <;> simp)
       refine ⟨fun _ _ => hT, ?_⟩
       refine al_at ?_ (ha.put (blt_lt rfl) _)
       refine al_step (i := 7) rfl (by kernel_rfl) rfl (op_buildSlice (el := 46) (is := [0]) (xs := [.tmp 76]) (sz := 3) (cs := [.int .i64 4, .int .i64 0, .slice s75 1 1]) hS rfl rfl (fun w => by kernel_rfl) rfl (by decide)) ?_
       clear hS
       rintro _ w ⟨s77, rfl, hS⟩
       obtain ⟨G77, hl77, hS77, hMB⟩ := SS.give' (MB : List Mk) [] EMk.mono hS (by decide) (by exact (Rows.nil (sz := 3) (E := EMk) _).snoc rfl ⟨_, rfl, hJ8, by decide, by decide⟩) rfl
       clear hS
       have hS := hS77
       clear hS77
       (try simp only [List.nil_append, List.cons_append] at hS)
       (try replace hCk := hCk.mono ECell.mono hl77)
       (try replace hTk := hTk.mono EInt.mono hl77)
       (try replace hCm := hCm.mono ECell.mono hl77)
       (try replace hTm := hTm.mono EInt.mono hl77)
       (try replace hI8 := hI8.mono EInt.mono hl77)
       (try replace hJ8 := hJ8.mono EInt.mono hl77)
       (try replace hMB := hMB.mono EMk.mono hl77)
       (try replace hCe := hCe.mono ECell.mono hl77)
       (try replace hTe := hTe.mono EInt.mono hl77)
       (try replace hRe := hRe.mono EInt.mono hl77)
       (try replace hMe := hMe.mono EMk.mono hl77)
       (try replace hcur := hcur.trans hl77)
       have hT := hT.back hS (by first | exact Le.refl _ | assumption) (fun x hx => by try simp only [bkA, bkB, bkC, bkD, bkE] at hx; (rcases hx with rfl | rfl | rfl | rfl) <;> simp)
       refine ⟨fun _ _ => hT, ?_⟩
       refine al_step (i := 8) rfl (by kernel_rfl) rfl (op_call_rt hS cf_16 rfl (fun _ => .inl rfl) (ColR.mono) (gc_Collect_c _ _ hS.hold _ HM [3] 9 (heap_ hCm hTm) okM.slots.ok (by decide) _ [2] hI8 _ MB hMB (by decide) (by decide) (by decide) (by unfold MkOk; decide) (by decide) (by decide) (by decide))) ?_
       clear hS
       rintro v78 w ⟨G78, hl78, hR78, hS⟩
       obtain ⟨oce, cce, ote, cte, oRe, cRe, oMe, cMe, rfl, hCe, hTe, hRe, hMe⟩ := colX hR78 c3c c3t c3r c3m
       (try replace hCk := hCk.mono ECell.mono hl78)
       (try replace hTk := hTk.mono EInt.mono hl78)
       (try replace hCm := hCm.mono ECell.mono hl78)
       (try replace hTm := hTm.mono EInt.mono hl78)
       (try replace hI8 := hI8.mono EInt.mono hl78)
       (try replace hJ8 := hJ8.mono EInt.mono hl78)
       (try replace hMB := hMB.mono EMk.mono hl78)
       (try replace hCe := hCe.mono ECell.mono hl78)
       (try replace hTe := hTe.mono EInt.mono hl78)
       (try replace hRe := hRe.mono EInt.mono hl78)
       (try replace hMe := hMe.mono EMk.mono hl78)
       (try replace hcur := hcur.trans hl78)
       have hT := hT.back hS (by first | exact Le.refl _ | assumption) (fun x hx => by try simp only [bkA, bkB, bkC, bkD, bkE] at hx; (rcases hx with rfl | rfl | rfl | rfl) <;> simp)
       refine ⟨fun _ _ => hT, ?_⟩
       refine al_take (i := 9) rfl (by kernel_rfl) (by kernel_rfl) (by kernel_rfl) rfl (fun _ _ _ h => h) (op_move rfl) rfl (al_take (i := 10) rfl (by kernel_rfl) (by kernel_rfl) (by kernel_rfl) rfl (fun _ _ _ h => h) (op_extract (vs := [.agg #[.slice oce 4 cce, .slice ote 1 cte, .int .i64 9], .slice oRe 1 cRe, .slice oMe 1 cMe]) rfl rfl) rfl (al_take (i := 11) rfl (by kernel_rfl) (by kernel_rfl) (by kernel_rfl) rfl (fun _ _ _ h => h) (op_extract (vs := [.agg #[.slice oce 4 cce, .slice ote 1 cte, .int .i64 9], .slice oRe 1 cRe, .slice oMe 1 cMe]) rfl rfl) rfl (al_take (i := 12) rfl (by kernel_rfl) (by kernel_rfl) (by kernel_rfl) rfl (fun _ _ _ h => h) (op_extract (vs := [.agg #[.slice oce 4 cce, .slice ote 1 cte, .int .i64 9], .slice oRe 1 cRe, .slice oMe 1 cMe]) rfl rfl) rfl ?_)))
       refine al_step0 (i := 14) rfl (by kernel_rfl) (op_storeN (j := 0) hS sz_28 rfl rfl rfl rfl rfl (by simp [Value.oneCell'])) ?_
       clear hS
       rintro _ w hS; (try simp only [List.nil_append, List.cons_append, List.set] at hS)
       refine ⟨no_need (by kernel_rfl), ?_⟩
       refine al_take (i := 15) rfl (by kernel_rfl) (by kernel_rfl) (by kernel_rfl) rfl (fun _ _ _ h => h) (op_assign rfl) rfl (al_take (i := 16) rfl (by kernel_rfl) (by kernel_rfl) (by kernel_rfl) rfl (fun _ _ _ h => h) (op_assign rfl) rfl ?_)
       exact K8 _ _ _ _ (by kernel_rfl) (by exact ⟨_, b19, oce, ote, oRe, oMe, cce, cte, cRe, cMe, rfl, hcur, hCe, hTe, hRe, hMe, hS⟩) ((Sub.cons rfl (Sub.cons rfl (Sub.cons rfl (Sub.cons rfl (Sub.cons rfl (Sub.cons rfl (Sub.cons rfl (Sub.cons rfl (Sub.cons rfl (Sub.cons rfl (Sub.cons rfl (Sub.cons rfl (Sub.cons rfl (Sub.cons rfl Sub.nil)))))))))))))))
     ·
      refine wpOp_of_opk (i := 7) rfl ha (op_buildSlice (el := 46) (is := [0]) (xs := [.tmp 76]) (sz := 3) (cs := [.int .i64 4, .int .i64 0, .slice s75 1 1]) hS rfl rfl (fun w => by kernel_rfl) rfl (by decide)) ?_
      clear hS
      rintro _ w ⟨s77, rfl, hS⟩
      obtain ⟨G77, hl77, hS77, hMB⟩ := SS.give' (MB : List Mk) [] EMk.mono hS (by decide) (by exact (Rows.nil (sz := 3) (E := EMk) _).snoc rfl ⟨_, rfl, hJ8, by decide, by decide⟩) rfl
      clear hS
      have hS := hS77
      clear hS77
      (try simp only [List.nil_append, List.cons_append] at hS)
      (try replace hCk := hCk.mono ECell.mono hl77)
      (try replace hTk := hTk.mono EInt.mono hl77)
      (try replace hCm := hCm.mono ECell.mono hl77)
      (try replace hTm := hTm.mono EInt.mono hl77)
      (try replace hI8 := hI8.mono EInt.mono hl77)
      (try replace hJ8 := hJ8.mono EInt.mono hl77)
      (try replace hMB := hMB.mono EMk.mono hl77)
      (try replace hCe := hCe.mono ECell.mono hl77)
      (try replace hTe := hTe.mono EInt.mono hl77)
      (try replace hRe := hRe.mono EInt.mono hl77)
      (try replace hMe := hMe.mono EMk.mono hl77)
      (try replace hcur := hcur.trans hl77)
      have hT := hT.back hS (by first | exact Le.refl _ | assumption) (fun x hx => by try simp only [bkA, bkB, bkC, bkD, bkE] at hx; (rcases hx with rfl | rfl | rfl | rfl) <;> simp)
      refine ⟨fun _ _ => hT, ?_⟩
      refine al_at ?_ (ha.put (blt_lt rfl) _)
      refine al_two (i := 2) (j := 13) (by kernel_rfl) (fun a ha => ?_) (fun a ha => ?_)
      ·
       refine wpOp_of_opk (i := 2) rfl ha (op_buildSlice (el := 3) (is := [0]) (xs := [.tmp 71]) (sz := 1) (cs := [.int .i64 (2)]) hS rfl rfl (fun w => by kernel_rfl) rfl (by decide)) ?_
       clear hS
       rintro _ w ⟨s72, rfl, hS⟩
       obtain ⟨G72, hl72, hS72, hI8⟩ := SS.give' ([2] : List Int) [] EInt.mono hS (by decide) ((Rows.ints (l := [2]) (by decide)).mono EInt.mono (fun b o hb => by cases hb)) rfl
       clear hS
       have hS := hS72
       clear hS72
       (try simp only [List.nil_append, List.cons_append] at hS)
       (try replace hCk := hCk.mono ECell.mono hl72)
       (try replace hTk := hTk.mono EInt.mono hl72)
       (try replace hCm := hCm.mono ECell.mono hl72)
       (try replace hTm := hTm.mono EInt.mono hl72)
       (try replace hI8 := hI8.mono EInt.mono hl72)
       (try replace hJ8 := hJ8.mono EInt.mono hl72)
       (try replace hMB := hMB.mono EMk.mono hl72)
       (try replace hCe := hCe.mono ECell.mono hl72)
       (try replace hTe := hTe.mono EInt.mono hl72)
       (try replace hRe := hRe.mono EInt.mono hl72)
       (try replace hMe := hMe.mono EMk.mono hl72)
       (try replace hcur := hcur.trans hl72)
       have hT := hT.back hS (by first | exact Le.refl _ | assumption) (fun x hx => by try simp only [bkA, bkB, bkC, bkD, bkE] at hx; (rcases hx with rfl | rfl | rfl | rfl) <;> simp)
       refine ⟨fun _ _ => hT, ?_⟩
       refine al_at ?_ (ha.put (blt_lt rfl) _)
       refine al_two (i := 8) (j := 13) (by kernel_rfl) (fun a ha => ?_) (fun a ha => ?_)
       ·
        refine wpOp_of_opk (i := 8) rfl ha (op_call_rt hS cf_16 rfl (fun _ => .inl rfl) (ColR.mono) (gc_Collect_c _ _ hS.hold _ HM [3] 9 (heap_ hCm hTm) okM.slots.ok (by decide) _ [2] hI8 _ MB hMB (by decide) (by decide) (by decide) (by unfold MkOk; decide) (by decide) (by decide) (by decide))) ?_
        clear hS
        rintro v78 w ⟨G78, hl78, hR78, hS⟩
        obtain ⟨oce, cce, ote, cte, oRe, cRe, oMe, cMe, rfl, hCe, hTe, hRe, hMe⟩ := colX hR78 c3c c3t c3r c3m
        (try replace hCk := hCk.mono ECell.mono hl78)
        (try replace hTk := hTk.mono EInt.mono hl78)
        (try replace hCm := hCm.mono ECell.mono hl78)
        (try replace hTm := hTm.mono EInt.mono hl78)
        (try replace hI8 := hI8.mono EInt.mono hl78)
        (try replace hJ8 := hJ8.mono EInt.mono hl78)
        (try replace hMB := hMB.mono EMk.mono hl78)
        (try replace hCe := hCe.mono ECell.mono hl78)
        (try replace hTe := hTe.mono EInt.mono hl78)
        (try replace hRe := hRe.mono EInt.mono hl78)
        (try replace hMe := hMe.mono EMk.mono hl78)
        (try replace hcur := hcur.trans hl78)
        have hT := hT.back hS (by first | exact Le.refl _ | assumption) (fun x hx => by try simp only [bkA, bkB, bkC, bkD, bkE] at hx; (rcases hx with rfl | rfl | rfl | rfl) <;> simp)
        refine ⟨fun _ _ => hT, ?_⟩
        refine al_at ?_ (ha.put (blt_lt rfl) _)
        refine al_take (i := 9) rfl (by kernel_rfl) (by kernel_rfl) (by kernel_rfl) rfl (fun _ _ _ h => h) (op_move rfl) rfl (al_take (i := 10) rfl (by kernel_rfl) (by kernel_rfl) (by kernel_rfl) rfl (fun _ _ _ h => h) (op_extract (vs := [.agg #[.slice oce 4 cce, .slice ote 1 cte, .int .i64 9], .slice oRe 1 cRe, .slice oMe 1 cMe]) rfl rfl) rfl (al_take (i := 11) rfl (by kernel_rfl) (by kernel_rfl) (by kernel_rfl) rfl (fun _ _ _ h => h) (op_extract (vs := [.agg #[.slice oce 4 cce, .slice ote 1 cte, .int .i64 9], .slice oRe 1 cRe, .slice oMe 1 cMe]) rfl rfl) rfl (al_take (i := 12) rfl (by kernel_rfl) (by kernel_rfl) (by kernel_rfl) rfl (fun _ _ _ h => h) (op_extract (vs := [.agg #[.slice oce 4 cce, .slice ote 1 cte, .int .i64 9], .slice oRe 1 cRe, .slice oMe 1 cMe]) rfl rfl) rfl ?_)))
        refine al_step (i := 13) rfl (by kernel_rfl) rfl (op_alloc hS el_28 rfl) ?_
        clear hS
        rintro _ w ⟨b19, rfl, hS⟩
        have hT := hT.back hS (by first | exact Le.refl _ | assumption) (fun x hx => by try simp only [bkA, bkB, bkC, bkD, bkE] at hx; (rcases hx with rfl | rfl | rfl | rfl) <;> simp)
        refine ⟨fun _ _ => hT, ?_⟩
        refine al_step0 (i := 14) rfl (by kernel_rfl) (op_storeN (j := 0) hS sz_28 rfl rfl rfl rfl rfl (by simp [Value.oneCell'])) ?_
        clear hS
        rintro _ w hS; (try simp only [List.nil_append, List.cons_append, List.set] at hS)
        refine ⟨no_need (by kernel_rfl), ?_⟩
        refine al_take (i := 15) rfl (by kernel_rfl) (by kernel_rfl) (by kernel_rfl) rfl (fun _ _ _ h => h) (op_assign rfl) rfl (al_take (i := 16) rfl (by kernel_rfl) (by kernel_rfl) (by kernel_rfl) rfl (fun _ _ _ h => h) (op_assign rfl) rfl ?_)
        exact K8 _ _ _ _ (by kernel_rfl) (by exact ⟨_, b19, oce, ote, oRe, oMe, cce, cte, cRe, cMe, rfl, hcur, hCe, hTe, hRe, hMe, hS⟩) ((Sub.cons rfl (Sub.cons rfl (Sub.cons rfl (Sub.cons rfl (Sub.cons rfl (Sub.cons rfl (Sub.cons rfl (Sub.cons rfl (Sub.cons rfl (Sub.cons rfl (Sub.cons rfl (Sub.cons rfl (Sub.cons rfl (Sub.cons rfl Sub.nil)))))))))))))))
       ·
        refine wpOp_of_opk (i := 13) rfl ha (op_alloc hS el_28 rfl) ?_
        clear hS
        rintro _ w ⟨b19, rfl, hS⟩
        have hT := hT.back hS (by first | exact Le.refl _ | assumption) (fun x hx => by try simp only [bkA, bkB, bkC, bkD, bkE] at hx; (rcases hx with rfl | rfl | rfl | rfl) <;> simp)
        refine ⟨fun _ _ => hT, ?_⟩
        refine al_at ?_ (ha.put (blt_lt rfl) _)
        refine al_step (i := 8) rfl (by kernel_rfl) rfl (op_call_rt hS cf_16 rfl (fun _ => .inl rfl) (ColR.mono) (gc_Collect_c _ _ hS.hold _ HM [3] 9 (heap_ hCm hTm) okM.slots.ok (by decide) _ [2] hI8 _ MB hMB (by decide) (by decide) (by decide) (by unfold MkOk; decide) (by decide) (by decide) (by decide))) ?_
        clear hS
        rintro v78 w ⟨G78, hl78, hR78, hS⟩
        obtain ⟨oce, cce, ote, cte, oRe, cRe, oMe, cMe, rfl, hCe, hTe, hRe, hMe⟩ := colX hR78 c3c c3t c3r c3m
        (try replace hCk := hCk.mono ECell.mono hl78)
        (try replace hTk := hTk.mono EInt.mono hl78)
        (try replace hCm := hCm.mono ECell.mono hl78)
        (try replace hTm := hTm.mono EInt.mono hl78)
        (try replace hI8 := hI8.mono EInt.mono hl78)
        (try replace hJ8 := hJ8.mono EInt.mono hl78)
        (try replace hMB := hMB.mono EMk.mono hl78)
        (try replace hCe := hCe.mono ECell.mono hl78)
        (try replace hTe := hTe.mono EInt.mono hl78)
        (try replace hRe := hRe.mono EInt.mono hl78)
        (try replace hMe := hMe.mono EMk.mono hl78)
        (try replace hcur := hcur.trans hl78)
        have hT := hT.back hS (by first | exact Le.refl _ | assumption) (fun x hx => by try simp only [bkA, bkB, bkC, bkD, bkE] at hx; (rcases hx with rfl | rfl | rfl | rfl) <;> simp)
        refine ⟨fun _ _ => hT, ?_⟩
        refine al_take (i := 9) rfl (by kernel_rfl) (by kernel_rfl) (by kernel_rfl) rfl (fun _ _ _ h => h) (op_move rfl) rfl (al_take (i := 10) rfl (by kernel_rfl) (by kernel_rfl) (by kernel_rfl) rfl (fun _ _ _ h => h) (op_extract (vs := [.agg #[.slice oce 4 cce, .slice ote 1 cte, .int .i64 9], .slice oRe 1 cRe, .slice oMe 1 cMe]) rfl rfl) rfl (al_take (i := 11) rfl (by kernel_rfl) (by kernel_rfl) (by kernel_rfl) rfl (fun _ _ _ h => h) (op_extract (vs := [.agg #[.slice oce 4 cce, .slice ote 1 cte, .int .i64 9], .slice oRe 1 cRe, .slice oMe 1 cMe]) rfl rfl) rfl (al_take (i := 12) rfl (by kernel_rfl) (by kernel_rfl) (by kernel_rfl) rfl (fun _ _ _ h => h) (op_extract (vs := [.agg #[.slice oce 4 cce, .slice ote 1 cte, .int .i64 9], .slice oRe 1 cRe, .slice oMe 1 cMe]) rfl rfl) rfl ?_)))
        refine al_step0 (i := 14) rfl (by kernel_rfl) (op_storeN (j := 0) hS sz_28 rfl rfl rfl rfl rfl (by simp [Value.oneCell'])) ?_
        clear hS
        rintro _ w hS; (try simp only [List.nil_append, List.cons_append, List.set] at hS)
        refine ⟨no_need (by kernel_rfl), ?_⟩
        refine al_take (i := 15) rfl (by kernel_rfl) (by kernel_rfl) (by kernel_rfl) rfl (fun _ _ _ h => h) (op_assign rfl) rfl (al_take (i := 16) rfl (by kernel_rfl) (by kernel_rfl) (by kernel_rfl) rfl (fun _ _ _ h => h) (op_assign rfl) rfl ?_)
        exact K8 _ _ _ _ (by kernel_rfl) (by exact ⟨_, b19, oce, ote, oRe, oMe, cce, cte, cRe, cMe, rfl, hcur, hCe, hTe, hRe, hMe, hS⟩) ((Sub.cons rfl (Sub.cons rfl (Sub.cons rfl (Sub.cons rfl (Sub.cons rfl (Sub.cons rfl (Sub.cons rfl (Sub.cons rfl (Sub.cons rfl (Sub.cons rfl (Sub.cons rfl (Sub.cons rfl (Sub.cons rfl (Sub.cons rfl Sub.nil)))))))))))))))
      ·
       refine wpOp_of_opk (i := 13) rfl ha (op_alloc hS el_28 rfl) ?_
       clear hS
       rintro _ w ⟨b19, rfl, hS⟩
       have hT := hT.back hS (by first | exact Le.refl _ | assumption) (fun x hx => by try simp only [bkA, bkB, bkC, bkD, bkE] at hx; (rcases hx with rfl | rfl | rfl | rfl) <;> simp)
       refine ⟨fun _ _ => hT, ?_⟩
       refine al_at ?_ (ha.put (blt_lt rfl) _)
       refine al_step (i := 2) rfl (by kernel_rfl) rfl (op_buildSlice (el := 3) (is := [0]) (xs := [.tmp 71]) (sz := 1) (cs := [.int .i64 (2)]) hS rfl rfl (fun w => by kernel_rfl) rfl (by decide)) ?_
       clear hS
       rintro _ w ⟨s72, rfl, hS⟩
       obtain ⟨G72, hl72, hS72, hI8⟩ := SS.give' ([2] : List Int) [] EInt.mono hS (by decide) ((Rows.ints (l := [2]) (by decide)).mono EInt.mono (fun b o hb => by cases hb)) rfl
       clear hS
       have hS := hS72
       clear hS72
       (try simp only [List.nil_append, List.cons_append] at hS)
       (try replace hCk := hCk.mono ECell.mono hl72)
       (try replace hTk := hTk.mono EInt.mono hl72)
       (try replace hCm := hCm.mono ECell.mono hl72)
       (try replace hTm := hTm.mono EInt.mono hl72)
       (try replace hI8 := hI8.mono EInt.mono hl72)
       (try replace hJ8 := hJ8.mono EInt.mono hl72)
       (try replace hMB := hMB.mono EMk.mono hl72)
       (try replace hCe := hCe.mono ECell.mono hl72)
       (try replace hTe := hTe.mono EInt.mono hl72)
       (try replace hRe := hRe.mono EInt.mono hl72)
       (try replace hMe := hMe.mono EMk.mono hl72)
       (try replace hcur := hcur.trans hl72)
       have hT := hT.back hS (by first | exact Le.refl _ | assumption) (fun x hx => by try simp only [bkA, bkB, bkC, bkD, bkE] at hx; (rcases hx with rfl | rfl | rfl | rfl) <;> simp)
       refine ⟨fun _ _ => hT, ?_⟩
       refine al_step (i := 8) rfl (by kernel_rfl) rfl (op_call_rt hS cf_16 rfl (fun _ => .inl rfl) (ColR.mono) (gc_Collect_c _ _ hS.hold _ HM [3] 9 (heap_ hCm hTm) okM.slots.ok (by decide) _ [2] hI8 _ MB hMB (by decide) (by decide) (by decide) (by unfold MkOk; decide) (by decide) (by decide) (by decide))) ?_
       clear hS
       rintro v78 w ⟨G78, hl78, hR78, hS⟩
       obtain ⟨oce, cce, ote, cte, oRe, cRe, oMe, cMe, rfl, hCe, hTe, hRe, hMe⟩ := colX hR78 c3c c3t c3r c3m
       (try replace hCk := hCk.mono ECell.mono hl78)
       (try replace hTk := hTk.mono EInt.mono hl78)
       (try replace hCm := hCm.mono ECell.mono hl78)
       (try replace hTm := hTm.mono EInt.mono hl78)
       (try replace hI8 := hI8.mono EInt.mono hl78)
       (try replace hJ8 := hJ8.mono EInt.mono hl78)
       (try replace hMB := hMB.mono EMk.mono hl78)
       (try replace hCe := hCe.mono ECell.mono hl78)
       (try replace hTe := hTe.mono EInt.mono hl78)
       (try replace hRe := hRe.mono EInt.mono hl78)
       (try replace hMe := hMe.mono EMk.mono hl78)
       (try replace hcur := hcur.trans hl78)
       have hT := hT.back hS (by first | exact Le.refl _ | assumption) (fun x hx => by try simp only [bkA, bkB, bkC, bkD, bkE] at hx; (rcases hx with rfl | rfl | rfl | rfl) <;> simp)
       refine ⟨fun _ _ => hT, ?_⟩
       refine al_take (i := 9) rfl (by kernel_rfl) (by kernel_rfl) (by kernel_rfl) rfl (fun _ _ _ h => h) (op_move rfl) rfl (al_take (i := 10) rfl (by kernel_rfl) (by kernel_rfl) (by kernel_rfl) rfl (fun _ _ _ h => h) (op_extract (vs := [.agg #[.slice oce 4 cce, .slice ote 1 cte, .int .i64 9], .slice oRe 1 cRe, .slice oMe 1 cMe]) rfl rfl) rfl (al_take (i := 11) rfl (by kernel_rfl) (by kernel_rfl) (by kernel_rfl) rfl (fun _ _ _ h => h) (op_extract (vs := [.agg #[.slice oce 4 cce, .slice ote 1 cte, .int .i64 9], .slice oRe 1 cRe, .slice oMe 1 cMe]) rfl rfl) rfl (al_take (i := 12) rfl (by kernel_rfl) (by kernel_rfl) (by kernel_rfl) rfl (fun _ _ _ h => h) (op_extract (vs := [.agg #[.slice oce 4 cce, .slice ote 1 cte, .int .i64 9], .slice oRe 1 cRe, .slice oMe 1 cMe]) rfl rfl) rfl ?_)))
       refine al_step0 (i := 14) rfl (by kernel_rfl) (op_storeN (j := 0) hS sz_28 rfl rfl rfl rfl rfl (by simp [Value.oneCell'])) ?_
       clear hS
       rintro _ w hS; (try simp only [List.nil_append, List.cons_append, List.set] at hS)
       refine ⟨no_need (by kernel_rfl), ?_⟩
       refine al_take (i := 15) rfl (by kernel_rfl) (by kernel_rfl) (by kernel_rfl) rfl (fun _ _ _ h => h) (op_assign rfl) rfl (al_take (i := 16) rfl (by kernel_rfl) (by kernel_rfl) (by kernel_rfl) rfl (fun _ _ _ h => h) (op_assign rfl) rfl ?_)
       exact K8 _ _ _ _ (by kernel_rfl) (by exact ⟨_, b19, oce, ote, oRe, oMe, cce, cte, cRe, cMe, rfl, hcur, hCe, hTe, hRe, hMe, hS⟩) ((Sub.cons rfl (Sub.cons rfl (Sub.cons rfl (Sub.cons rfl (Sub.cons rfl (Sub.cons rfl (Sub.cons rfl (Sub.cons rfl (Sub.cons rfl (Sub.cons rfl (Sub.cons rfl (Sub.cons rfl (Sub.cons rfl (Sub.cons rfl Sub.nil)))))))))))))))
     ·
      refine wpOp_of_opk (i := 13) rfl ha (op_alloc hS el_28 rfl) ?_
      clear hS
      rintro _ w ⟨b19, rfl, hS⟩
      have hT := hT.back hS (by first | exact Le.refl _ | assumption) (fun x hx => by try simp only [bkA, bkB, bkC, bkD, bkE] at hx; (rcases hx with rfl | rfl | rfl | rfl) <;> simp)
      refine ⟨fun _ _ => hT, ?_⟩
      refine al_at ?_ (ha.put (blt_lt rfl) _)
      refine al_two (i := 2) (j := 7) (by kernel_rfl) (fun a ha => ?_) (fun a ha => ?_)
      ·
       refine wpOp_of_opk (i := 2) rfl ha (op_buildSlice (el := 3) (is := [0]) (xs := [.tmp 71]) (sz := 1) (cs := [.int .i64 (2)]) hS rfl rfl (fun w => by kernel_rfl) rfl (by decide)) ?_
       clear hS
       rintro _ w ⟨s72, rfl, hS⟩
       obtain ⟨G72, hl72, hS72, hI8⟩ := SS.give' ([2] : List Int) [] EInt.mono hS (by decide) ((Rows.ints (l := [2]) (by decide)).mono EInt.mono (fun b o hb => by cases hb)) rfl
       clear hS
       have hS := hS72
       clear hS72
       (try simp only [List.nil_append, List.cons_append] at hS)
       (try replace hCk := hCk.mono ECell.mono hl72)
       (try replace hTk := hTk.mono EInt.mono hl72)
       (try replace hCm := hCm.mono ECell.mono hl72)
       (try replace hTm := hTm.mono EInt.mono hl72)
       (try replace hI8 := hI8.mono EInt.mono hl72)
       (try replace hJ8 := hJ8.mono EInt.mono hl72)
       (try replace hMB := hMB.mono EMk.mono hl72)
       (try replace hCe := hCe.mono ECell.mono hl72)
       (try replace hTe := hTe.mono EInt.mono hl72)
       (try replace hRe := hRe.mono EInt.mono hl72)
       (try replace hMe := hMe.mono EMk.mono hl72)
       (try replace hcur := hcur.trans hl72)
       have hT := hT.back hS (by first | exact Le.refl _ | assumption) (fun x hx => by try simp only [bkA, bkB, bkC, bkD, bkE] at hx; (rcases hx with rfl | rfl | rfl | rfl) <;> simp)
       refine ⟨fun _ _ => hT, ?_⟩
       refine al_at ?_ (ha.put (blt_lt rfl) _)
       refine al_step (i := 7) rfl (by kernel_rfl) rfl (op_buildSlice (el := 46) (is := [0]) (xs := [.tmp 76]) (sz := 3) (cs := [.int .i64 4, .int .i64 0, .slice s75 1 1]) hS rfl rfl (fun w => by kernel_rfl) rfl (by decide)) ?_
       clear hS
       rintro _ w ⟨s77, rfl, hS⟩
       obtain ⟨G77, hl77, hS77, hMB⟩ := SS.give' (MB : List Mk) [] EMk.mono hS (by decide) (by exact (Rows.nil (sz := 3) (E := EMk) _).snoc rfl ⟨_, rfl, hJ8, by decide, by decide⟩) rfl
       clear hS
       have hS := hS77
       clear hS77
       (try simp only [List.nil_append, List.cons_append] at hS)
       (try replace hCk := hCk.mono ECell.mono hl77)
       (try replace hTk := hTk.mono EInt.mono hl77)
       (try replace hCm := hCm.mono ECell.mono hl77)
       (try replace hTm := hTm.mono EInt.mono hl77)
       (try replace hI8 := hI8.mono EInt.mono hl77)
       (try replace hJ8 := hJ8.mono EInt.mono hl77)
       (try replace hMB := hMB.mono EMk.mono hl77)
       (try replace hCe := hCe.mono ECell.mono hl77)
       (try replace hTe := hTe.mono EInt.mono hl77)
       (try replace hRe := hRe.mono EInt.mono hl77)
       (try replace hMe := hMe.mono EMk.mono hl77)
       (try replace hcur := hcur.trans hl77)
       have hT := hT.back hS (by first | exact Le.refl _ | assumption) (fun x hx => by try simp only [bkA, bkB, bkC, bkD, bkE] at hx; (rcases hx with rfl | rfl | rfl | rfl) <;> simp)
       refine ⟨fun _ _ => hT, ?_⟩
       refine al_step (i := 8) rfl (by kernel_rfl) rfl (op_call_rt hS cf_16 rfl (fun _ => .inl rfl) (ColR.mono) (gc_Collect_c _ _ hS.hold _ HM [3] 9 (heap_ hCm hTm) okM.slots.ok (by decide) _ [2] hI8 _ MB hMB (by decide) (by decide) (by decide) (by unfold MkOk; decide) (by decide) (by decide) (by decide))) ?_
       clear hS
       rintro v78 w ⟨G78, hl78, hR78, hS⟩
       obtain ⟨oce, cce, ote, cte, oRe, cRe, oMe, cMe, rfl, hCe, hTe, hRe, hMe⟩ := colX hR78 c3c c3t c3r c3m
       (try replace hCk := hCk.mono ECell.mono hl78)
       (try replace hTk := hTk.mono EInt.mono hl78)
       (try replace hCm := hCm.mono ECell.mono hl78)
       (try replace hTm := hTm.mono EInt.mono hl78)
       (try replace hI8 := hI8.mono EInt.mono hl78)
       (try replace hJ8 := hJ8.mono EInt.mono hl78)
       (try replace hMB := hMB.mono EMk.mono hl78)
       (try replace hCe := hCe.mono ECell.mono hl78)
       (try replace hTe := hTe.mono EInt.mono hl78)
       (try replace hRe := hRe.mono EInt.mono hl78)
       (try replace hMe := hMe.mono EMk.mono hl78)
       (try replace hcur := hcur.trans hl78)
       have hT := hT.back hS (by first | exact Le.refl _ | assumption) (fun x hx => by try simp only [bkA, bkB, bkC, bkD, bkE] at hx; (rcases hx with rfl | rfl | rfl | rfl) <;> simp)
       refine ⟨fun _ _ => hT, ?_⟩
       refine al_take (i := 9) rfl (by kernel_rfl) (by kernel_rfl) (by kernel_rfl) rfl (fun _ _ _ h => h) (op_move rfl) rfl (al_take (i := 10) rfl (by kernel_rfl) (by kernel_rfl) (by kernel_rfl) rfl (fun _ _ _ h => h) (op_extract (vs := [.agg #[.slice oce 4 cce, .slice ote 1 cte, .int .i64 9], .slice oRe 1 cRe, .slice oMe 1 cMe]) rfl rfl) rfl (al_take (i := 11) rfl (by kernel_rfl) (by kernel_rfl) (by kernel_rfl) rfl (fun _ _ _ h => h) (op_extract (vs := [.agg #[.slice oce 4 cce, .slice ote 1 cte, .int .i64 9], .slice oRe 1 cRe, .slice oMe 1 cMe]) rfl rfl) rfl (al_take (i := 12) rfl (by kernel_rfl) (by kernel_rfl) (by kernel_rfl) rfl (fun _ _ _ h => h) (op_extract (vs := [.agg #[.slice oce 4 cce, .slice ote 1 cte, .int .i64 9], .slice oRe 1 cRe, .slice oMe 1 cMe]) rfl rfl) rfl ?_)))
       refine al_step0 (i := 14) rfl (by kernel_rfl) (op_storeN (j := 0) hS sz_28 rfl rfl rfl rfl rfl (by simp [Value.oneCell'])) ?_
       clear hS
       rintro _ w hS; (try simp only [List.nil_append, List.cons_append, List.set] at hS)
       refine ⟨no_need (by kernel_rfl), ?_⟩
       refine al_take (i := 15) rfl (by kernel_rfl) (by kernel_rfl) (by kernel_rfl) rfl (fun _ _ _ h => h) (op_assign rfl) rfl (al_take (i := 16) rfl (by kernel_rfl) (by kernel_rfl) (by kernel_rfl) rfl (fun _ _ _ h => h) (op_assign rfl) rfl ?_)
       exact K8 _ _ _ _ (by kernel_rfl) (by exact ⟨_, b19, oce, ote, oRe, oMe, cce, cte, cRe, cMe, rfl, hcur, hCe, hTe, hRe, hMe, hS⟩) ((Sub.cons rfl (Sub.cons rfl (Sub.cons rfl (Sub.cons rfl (Sub.cons rfl (Sub.cons rfl (Sub.cons rfl (Sub.cons rfl (Sub.cons rfl (Sub.cons rfl (Sub.cons rfl (Sub.cons rfl (Sub.cons rfl (Sub.cons rfl Sub.nil)))))))))))))))
      ·
       refine wpOp_of_opk (i := 7) rfl ha (op_buildSlice (el := 46) (is := [0]) (xs := [.tmp 76]) (sz := 3) (cs := [.int .i64 4, .int .i64 0, .slice s75 1 1]) hS rfl rfl (fun w => by kernel_rfl) rfl (by decide)) ?_
       clear hS
       rintro _ w ⟨s77, rfl, hS⟩
       obtain ⟨G77, hl77, hS77, hMB⟩ := SS.give' (MB : List Mk) [] EMk.mono hS (by decide) (by exact (Rows.nil (sz := 3) (E := EMk) _).snoc rfl ⟨_, rfl, hJ8, by decide, by decide⟩) rfl
       clear hS
       have hS := hS77
       clear hS77
       (try simp only [List.nil_append, List.cons_append] at hS)
       (try replace hCk := hCk.mono ECell.mono hl77)
       (try replace hTk := hTk.mono EInt.mono hl77)
       (try replace hCm := hCm.mono ECell.mono hl77)
       (try replace hTm := hTm.mono EInt.mono hl77)
       (try replace hI8 := hI8.mono EInt.mono hl77)
       (try replace hJ8 := hJ8.mono EInt.mono hl77)
       (try replace hMB := hMB.mono EMk.mono hl77)
       (try replace hCe := hCe.mono ECell.mono hl77)
       (try replace hTe := hTe.mono EInt.mono hl77)
       (try replace hRe := hRe.mono EInt.mono hl77)
       (try replace hMe := hMe.mono EMk.mono hl77)
       (try replace hcur := hcur.trans hl77)
       have hT := hT.back hS (by first | exact Le.refl _ | assumption) (fun x hx => by try simp only [bkA, bkB, bkC, bkD, bkE] at hx; (rcases hx with rfl | rfl | rfl | rfl) <;> simp)
       refine ⟨fun _ _ => hT, ?_⟩
       refine al_at ?_ (ha.put (blt_lt rfl) _)
       refine al_step (i := 2) rfl (by kernel_rfl) rfl (op_buildSlice (el := 3) (is := [0]) (xs := [.tmp 71]) (sz := 1) (cs := [.int .i64 (2)]) hS rfl rfl (fun w => by kernel_rfl) rfl (by decide)) ?_
       clear hS
       rintro _ w ⟨s72, rfl, hS⟩
       obtain ⟨G72, hl72, hS72, hI8⟩ := SS.give' ([2] : List Int) [] EInt.mono hS (by decide) ((Rows.ints (l := [2]) (by decide)).mono EInt.mono (fun b o hb => by cases hb)) rfl
       clear hS
       have hS := hS72
       clear hS72
       (try simp only [List.nil_append, List.cons_append] at hS)
       (try replace hCk := hCk.mono ECell.mono hl72)
       (try replace hTk := hTk.mono EInt.mono hl72)
       (try replace hCm := hCm.mono ECell.mono hl72)
       (try replace hTm := hTm.mono EInt.mono hl72)
       (try replace hI8 := hI8.mono EInt.mono hl72)
       (try replace hJ8 := hJ8.mono EInt.mono hl72)
       (try replace hMB := hMB.mono EMk.mono hl72)
       (try replace hCe := hCe.mono ECell.mono hl72)
       (try replace hTe := hTe.mono EInt.mono hl72)
       (try replace hRe := hRe.mono EInt.mono hl72)
       (try replace hMe := hMe.mono EMk.mono hl72)
       (try replace hcur := hcur.trans hl72)
       have hT := hT.back hS (by first | exact Le.refl _ | assumption) (fun x hx => by try simp only [bkA, bkB, bkC, bkD, bkE] at hx; (rcases hx with rfl | rfl | rfl | rfl) <;> simp)
       refine ⟨fun _ _ => hT, ?_⟩
       refine al_step (i := 8) rfl (by kernel_rfl) rfl (op_call_rt hS cf_16 rfl (fun _ => .inl rfl) (ColR.mono) (gc_Collect_c _ _ hS.hold _ HM [3] 9 (heap_ hCm hTm) okM.slots.ok (by decide) _ [2] hI8 _ MB hMB (by decide) (by decide) (by decide) (by unfold MkOk; decide) (by decide) (by decide) (by decide))) ?_
       clear hS
       rintro v78 w ⟨G78, hl78, hR78, hS⟩
       obtain ⟨oce, cce, ote, cte, oRe, cRe, oMe, cMe, rfl, hCe, hTe, hRe, hMe⟩ := colX hR78 c3c c3t c3r c3m
       (try replace hCk := hCk.mono ECell.mono hl78)
       (try replace hTk := hTk.mono EInt.mono hl78)
       (try replace hCm := hCm.mono ECell.mono hl78)
       (try replace hTm := hTm.mono EInt.mono hl78)
       (try replace hI8 := hI8.mono EInt.mono hl78)
       (try replace hJ8 := hJ8.mono EInt.mono hl78)
       (try replace hMB := hMB.mono EMk.mono hl78)
       (try replace hCe := hCe.mono ECell.mono hl78)
       (try replace hTe := hTe.mono EInt.mono hl78)
       (try replace hRe := hRe.mono EInt.mono hl78)
       (try replace hMe := hMe.mono EMk.mono hl78)
       (try replace hcur := hcur.trans hl78)
       have hT := hT.back hS (by first | exact Le.refl _ | assumption) (fun x hx => by try simp only [bkA, bkB, bkC, bkD, bkE] at hx; (rcases hx with rfl | rfl | rfl | rfl) <;> simp)
       refine ⟨fun _ _ => hT, ?_⟩
       refine al_take (i := 9) rfl (by kernel_rfl) (by kernel_rfl) (by kernel_rfl) rfl (fun _ _ _ h => h) (op_move rfl) rfl (al_take (i := 10) rfl (by kernel_rfl) (by kernel_rfl) (by kernel_rfl) rfl (fun _ _ _ h => h) (op_extract (vs := [.agg #[.slice oce 4 cce, .slice ote 1 cte, .int .i64 9], .slice oRe 1 cRe, .slice oMe 1 cMe]) rfl rfl) rfl (al_take (i := 11) rfl (by kernel_rfl) (by kernel_rfl) (by kernel_rfl) rfl (fun _ _ _ h => h) (op_extract (vs := [.agg #[.slice oce 4 cce, .slice ote 1 cte, .int .i64 9], .slice oRe 1 cRe, .slice oMe 1 cMe]) rfl rfl) rfl (al_take (i := 12) rfl (by kernel_rfl) (by kernel_rfl) (by kernel_rfl) rfl (fun _ _ _ h => h) (op_extract (vs := [.agg #[.slice oce 4 cce, .slice ote 1 cte, .int .i64 9], .slice oRe 1 cRe, .slice oMe 1 cMe]) rfl rfl) rfl ?_)))
       refine al_step0 (i := 14) rfl (by kernel_rfl) (op_storeN (j := 0) hS sz_28 rfl rfl rfl rfl rfl (by simp [Value.oneCell'])) ?_
       clear hS
       rintro _ w hS; (try simp only [List.nil_append, List.cons_append, List.set] at hS)
       refine ⟨no_need (by kernel_rfl), ?_⟩
       refine al_take (i := 15) rfl (by kernel_rfl) (by kernel_rfl) (by kernel_rfl) rfl (fun _ _ _ h => h) (op_assign rfl) rfl (al_take (i := 16) rfl (by kernel_rfl) (by kernel_rfl) (by kernel_rfl) rfl (fun _ _ _ h => h) (op_assign rfl) rfl ?_)
       exact K8 _ _ _ _ (by kernel_rfl) (by exact ⟨_, b19, oce, ote, oRe, oMe, cce, cte, cRe, cMe, rfl, hcur, hCe, hTe, hRe, hMe, hS⟩) ((Sub.cons rfl (Sub.cons rfl (Sub.cons rfl (Sub.cons rfl (Sub.cons rfl (Sub.cons rfl (Sub.cons rfl (Sub.cons rfl (Sub.cons rfl (Sub.cons rfl (Sub.cons rfl (Sub.cons rfl (Sub.cons rfl (Sub.cons rfl Sub.nil)))))))))))))))
    ·
     refine wpOp_of_opk (i := 13) rfl ha (op_alloc hS el_28 rfl) ?_
     clear hS
     rintro _ w ⟨b19, rfl, hS⟩
     have hT := hT.back hS (by first | exact Le.refl _ | assumption) (fun x hx => by try simp only [bkA, bkB, bkC, bkD, bkE] at hx; (rcases hx with rfl | rfl | rfl | rfl) <;> simp)
     refine ⟨fun _ _ => hT, ?_⟩
     refine al_at ?_ (ha.put (blt_lt rfl) _)
     refine al_two (i := 2) (j := 6) (by kernel_rfl) (fun a ha => ?_) (fun a ha => ?_)
     ·
      refine wpOp_of_opk (i := 2) rfl ha (op_buildSlice (el := 3) (is := [0]) (xs := [.tmp 71]) (sz := 1) (cs := [.int .i64 (2)]) hS rfl rfl (fun w => by kernel_rfl) rfl (by decide)) ?_
      clear hS
      rintro _ w ⟨s72, rfl, hS⟩
      obtain ⟨G72, hl72, hS72, hI8⟩ := SS.give' ([2] : List Int) [] EInt.mono hS (by decide) ((Rows.ints (l := [2]) (by decide)).mono EInt.mono (fun b o hb => by cases hb)) rfl
      clear hS
      have hS := hS72
      clear hS72
      (try simp only [List.nil_append, List.cons_append] at hS)
      (try replace hCk := hCk.mono ECell.mono hl72)
      (try replace hTk := hTk.mono EInt.mono hl72)
      (try replace hCm := hCm.mono ECell.mono hl72)
      (try replace hTm := hTm.mono EInt.mono hl72)
      (try replace hI8 := hI8.mono EInt.mono hl72)
      (try replace hJ8 := hJ8.mono EInt.mono hl72)
      (try replace hMB := hMB.mono EMk.mono hl72)
      (try replace hCe := hCe.mono ECell.mono hl72)
      (try replace hTe := hTe.mono EInt.mono hl72)
      (try replace hRe := hRe.mono EInt.mono hl72)
      (try replace hMe := hMe.mono EMk.mono hl72)
      (try replace hcur := hcur.trans hl72)
      have hT := hT.back hS (by first | exact Le.refl _ | assumption) (fun x hx => by try simp only [bkA, bkB, bkC, bkD, bkE] at hx; (rcases hx with rfl | rfl | rfl | rfl) <;> simp)
      refine ⟨fun _ _ => hT, ?_⟩
      refine al_at ?_ (ha.put (blt_lt rfl) _)
      refine al_step (i := 6) rfl (by kernel_rfl) rfl (op_call_sc hS cf_30 rfl (R08_Mark_c _ _ hS.hold _ HK [] 9 (heap_ hCk hTk) s75 1 1)) ?_
      clear hS
      rintro _ w ⟨rfl, hS⟩
      have hT := hT.back hS (by first | exact Le.refl _ | assumption) (fun x hx => by try simp only [bkA, bkB, bkC, bkD, bkE] at hx; (rcases hx with rfl | rfl | rfl | rfl) <;> simp)
      refine ⟨fun _ _ => hT, ?_⟩
      refine al_step (i := 7) rfl (by kernel_rfl) rfl (op_buildSlice (el := 46) (is := [0]) (xs := [.tmp 76]) (sz := 3) (cs := [.int .i64 4, .int .i64 0, .slice s75 1 1]) hS rfl rfl (fun w => by kernel_rfl) rfl (by decide)) ?_
      clear hS
      rintro _ w ⟨s77, rfl, hS⟩
      obtain ⟨G77, hl77, hS77, hMB⟩ := SS.give' (MB : List Mk) [] EMk.mono hS (by decide) (by exact (Rows.nil (sz := 3) (E := EMk) _).snoc rfl ⟨_, rfl, hJ8, by decide, by decide⟩) rfl
      clear hS
      have hS := hS77
      clear hS77
      (try simp only [List.nil_append, List.cons_append] at hS)
      (try replace hCk := hCk.mono ECell.mono hl77)
      (try replace hTk := hTk.mono EInt.mono hl77)
      (try replace hCm := hCm.mono ECell.mono hl77)
      (try replace hTm := hTm.mono EInt.mono hl77)
      (try replace hI8 := hI8.mono EInt.mono hl77)
      (try replace hJ8 := hJ8.mono EInt.mono hl77)
      (try replace hMB := hMB.mono EMk.mono hl77)
      (try replace hCe := hCe.mono ECell.mono hl77)
      (try replace hTe := hTe.mono EInt.mono hl77)
      (try replace hRe := hRe.mono EInt.mono hl77)
      (try replace hMe := hMe.mono EMk.mono hl77)
      (try replace hcur := hcur.trans hl77)
      have hT := hT.back hS (by first | exact Le.refl _ | assumption) (fun x hx => by try simp only [bkA, bkB, bkC, bkD, bkE] at hx; (rcases hx with rfl | rfl | rfl | rfl) <;> simp)
      refine ⟨fun _ _ => hT, ?_⟩
      refine al_step (i := 8) rfl (by kernel_rfl) rfl (op_call_rt hS cf_16 rfl (fun _ => .inl rfl) (ColR.mono) (gc_Collect_c _ _ hS.hold _ HM [3] 9 (heap_ hCm hTm) okM.slots.ok (by decide) _ [2] hI8 _ MB hMB (by decide) (by decide) (by decide) (by unfold MkOk; decide) (by decide) (by decide) (by decide))) ?_
      clear hS
      rintro v78 w ⟨G78, hl78, hR78, hS⟩
      obtain ⟨oce, cce, ote, cte, oRe, cRe, oMe, cMe, rfl, hCe, hTe, hRe, hMe⟩ := colX hR78 c3c c3t c3r c3m
      (try replace hCk := hCk.mono ECell.mono hl78)
      (try replace hTk := hTk.mono EInt.mono hl78)
      (try replace hCm := hCm.mono ECell.mono hl78)
      (try replace hTm := hTm.mono EInt.mono hl78)
      (try replace hI8 := hI8.mono EInt.mono hl78)
      (try replace hJ8 := hJ8.mono EInt.mono hl78)
      (try replace hMB := hMB.mono EMk.mono hl78)
      (try replace hCe := hCe.mono ECell.mono hl78)
      (try replace hTe := hTe.mono EInt.mono hl78)
      (try replace hRe := hRe.mono EInt.mono hl78)
      (try replace hMe := hMe.mono EMk.mono hl78)
      (try replace hcur := hcur.trans hl78)
      have hT := hT.back hS (by first | exact Le.refl _ | assumption) (fun x hx => by try simp only [bkA, bkB, bkC, bkD, bkE] at hx; (rcases hx with rfl | rfl | rfl | rfl) <;> simp)
      refine ⟨fun _ _ => hT, ?_⟩
      refine al_take (i := 9) rfl (by kernel_rfl) (by kernel_rfl) (by kernel_rfl) rfl (fun _ _ _ h => h) (op_move rfl) rfl (al_take (i := 10) rfl (by kernel_rfl) (by kernel_rfl) (by kernel_rfl) rfl (fun _ _ _ h => h) (op_extract (vs := [.agg #[.slice oce 4 cce, .slice ote 1 cte, .int .i64 9], .slice oRe 1 cRe, .slice oMe 1 cMe]) rfl rfl) rfl (al_take (i := 11) rfl (by kernel_rfl) (by kernel_rfl) (by kernel_rfl) rfl (fun _ _ _ h => h) (op_extract (vs := [.agg #[.slice oce 4 cce, .slice ote 1 cte, .int .i64 9], .slice oRe 1 cRe, .slice oMe 1 cMe]) rfl rfl) rfl (al_take (i := 12) rfl (by kernel_rfl) (by kernel_rfl) (by kernel_rfl) rfl (fun _ _ _ h => h) (op_extract (vs := [.agg #[.slice oce 4 cce, .slice ote 1 cte, .int .i64 9], .slice oRe 1 cRe, .slice oMe 1 cMe]) rfl rfl) rfl ?_)))
      refine al_step0 (i := 14) rfl (by kernel_rfl) (op_storeN (j := 0) hS sz_28 rfl rfl rfl rfl rfl (by simp [Value.oneCell'])) ?_
      clear hS
      rintro _ w hS; (try simp only [List.nil_append, List.cons_append, List.set] at hS)
      refine ⟨no_need (by kernel_rfl), ?_⟩
      refine al_take (i := 15) rfl (by kernel_rfl) (by kernel_rfl) (by kernel_rfl) rfl (fun _ _ _ h => h) (op_assign rfl) rfl (al_take (i := 16) rfl (by kernel_rfl) (by kernel_rfl) (by kernel_rfl) rfl (fun _ _ _ h => h) (op_assign rfl) rfl ?_)
      exact K8 _ _ _ _ (by kernel_rfl) (by exact ⟨_, b19, oce, ote, oRe, oMe, cce, cte, cRe, cMe, rfl, hcur, hCe, hTe, hRe, hMe, hS⟩) ((Sub.cons rfl (Sub.cons rfl (Sub.cons rfl (Sub.cons rfl (Sub.cons rfl (Sub.cons rfl (Sub.cons rfl (Sub.cons rfl (Sub.cons rfl (Sub.cons rfl (Sub.cons rfl (Sub.cons rfl (Sub.cons rfl (Sub.cons rfl Sub.nil)))))))))))))))
     ·
      refine wpOp_of_opk (i := 6) rfl ha (op_call_sc hS cf_30 rfl (R08_Mark_c _ _ hS.hold _ HK [] 9 (heap_ hCk hTk) s75 1 1)) ?_
      clear hS
      rintro _ w ⟨rfl, hS⟩
      have hT := hT.back hS (by first | exact Le.refl _ | assumption) (fun x hx => by try simp only [bkA, bkB, bkC, bkD, bkE] at hx; (rcases hx with rfl | rfl | rfl | rfl) <;> simp)
      refine ⟨fun _ _ => hT, ?_⟩
      refine al_at ?_ (ha.put (blt_lt rfl) _)
      refine al_two (i := 2) (j := 7) (by kernel_rfl) (fun a ha => ?_) (fun a ha => ?_)
      ·
       refine wpOp_of_opk (i := 2) rfl ha (op_buildSlice (el := 3) (is := [0]) (xs := [.tmp 71]) (sz := 1) (cs := [.int .i64 (2)]) hS rfl rfl (fun w => by kernel_rfl) rfl (by decide)) ?_
       clear hS
       rintro _ w ⟨s72, rfl, hS⟩
       obtain ⟨G72, hl72, hS72, hI8⟩ := SS.give' ([2] : List Int) [] EInt.mono hS (by decide) ((Rows.ints (l := [2]) (by decide)).mono EInt.mono (fun b o hb => by cases hb)) rfl
       clear hS
       have hS := hS72
       clear hS72
       (try simp only [List.nil_append, List.cons_append] at hS)
       (try replace hCk := hCk.mono ECell.mono hl72)
       (try replace hTk := hTk.mono EInt.mono hl72)
       (try replace hCm := hCm.mono ECell.mono hl72)
       (try replace hTm := hTm.mono EInt.mono hl72)
       (try replace hI8 := hI8.mono EInt.mono hl72)
       (try replace hJ8 := hJ8.mono EInt.mono hl72)
       (try replace hMB := hMB.mono EMk.mono hl72)
       (try replace hCe := hCe.mono ECell.mono hl72)
       (try replace hTe := hTe.mono EInt.mono hl72)
       (try replace hRe := hRe.mono EInt.mono hl72)
       (try replace hMe := hMe.mono EMk.mono hl72)
       (try replace hcur := hcur.trans hl72)
       have hT := hT.back hS (by first | exact Le.refl _ | assumption) (fun x hx => by try simp only [bkA, bkB, bkC, bkD, bkE] at hx; (rcases hx with rfl | rfl | rfl | rfl) <;> simp)
       refine ⟨fun _ _ => hT, ?_⟩
       refine al_at ?_ (ha.put (blt_lt rfl) _)
       refine al_step (i := 7) rfl (by kernel_rfl) rfl (op_buildSlice (el := 46) (is := [0]) (xs := [.tmp 76]) (sz := 3) (cs := [.int .i64 4, .int .i64 0, .slice s75 1 1]) hS rfl rfl (fun w => by kernel_rfl) rfl (by decide)) ?_
       clear hS
       rintro _ w ⟨s77, rfl, hS⟩
       obtain ⟨G77, hl77, hS77, hMB⟩ := SS.give' (MB : List Mk) [] EMk.mono hS (by decide) (by exact (Rows.nil (sz := 3) (E := EMk) _).snoc rfl ⟨_, rfl, hJ8, by decide, by decide⟩) rfl
       clear hS
       have hS := hS77
       clear hS77
       (try simp only [List.nil_append, List.cons_append] at hS)
       (try replace hCk := hCk.mono ECell.mono hl77)
       (try replace hTk := hTk.mono EInt.mono hl77)
       (try replace hCm := hCm.mono ECell.mono hl77)
       (try replace hTm := hTm.mono EInt.mono hl77)
       (try replace hI8 := hI8.mono EInt.mono hl77)
       (try replace hJ8 := hJ8.mono EInt.mono hl77)
       (try replace hMB := hMB.mono EMk.mono hl77)
       (try replace hCe := hCe.mono ECell.mono hl77)
       (try replace hTe := hTe.mono EInt.mono hl77)
       (try replace hRe := hRe.mono EInt.mono hl77)
       (try replace hMe := hMe.mono EMk.mono hl77)
       (try replace hcur := hcur.trans hl77)
       have hT := hT.back hS (by first | exact Le.refl _ | assumption) (fun x hx => by try simp only [bkA, bkB, bkC, bkD, bkE] at hx; (rcases hx with rfl | rfl | rfl | rfl) <;> simp)
       refine ⟨fun _ _ => hT, ?_⟩
       refine al_step (i := 8) rfl (by kernel_rfl) rfl (op_call_rt hS cf_16 rfl (fun _ => .inl rfl) (ColR.mono) (gc_Collect_c _ _ hS.hold _ HM [3] 9 (heap_ hCm hTm) okM.slots.ok (by decide) _ [2] hI8 _ MB hMB (by decide) (by decide) (by decide) (by unfold MkOk; decide) (by decide) (by decide) (by decide))) ?_
       clear hS
       rintro v78 w ⟨G78, hl78, hR78, hS⟩
       obtain ⟨oce, cce, ote, cte, oRe, cRe, oMe, cMe, rfl, hCe, hTe, hRe, hMe⟩ := colX hR78 c3c c3t c3r c3m
       (try replace hCk := hCk.mono ECell.mono hl78)
       (try replace hTk := hTk.mono EInt.mono hl78)
       (try replace hCm := hCm.mono ECell.mono hl78)
       (try replace hTm := hTm.mono EInt.mono hl78)
       (try replace hI8 := hI8.mono EInt.mono hl78)
       (try replace hJ8 := hJ8.mono EInt.mono hl78)
       (try replace hMB := hMB.mono EMk.mono hl78)
       (try replace hCe := hCe.mono ECell.mono hl78)
       (try replace hTe := hTe.mono EInt.mono hl78)
       (try replace hRe := hRe.mono EInt.mono hl78)
       (try replace hMe := hMe.mono EMk.mono hl78)
       (try replace hcur := hcur.trans hl78)
       have hT := hT.back hS (by first | exact Le.refl _ | assumption) (fun x hx => by try simp only [bkA, bkB, bkC, bkD, bkE] at hx; (rcases hx with rfl | rfl | rfl | rfl) <;> simp)
       refine ⟨fun _ _ => hT, ?_⟩
       refine al_take (i := 9) rfl (by kernel_rfl) (by kernel_rfl) (by kernel_rfl) rfl (fun _ _ _ h => h) (op_move rfl) rfl (al_take (i := 10) rfl (by kernel_rfl) (by kernel_rfl) (by kernel_rfl) rfl (fun _ _ _ h => h) (op_extract (vs := [.agg #[.slice oce 4 cce, .slice ote 1 cte, .int .i64 9], .slice oRe 1 cRe, .slice oMe 1 cMe]) rfl rfl) rfl (al_take (i := 11) rfl (by kernel_rfl) (by kernel_rfl) (by kernel_rfl) rfl (fun _ _ _ h => h) (op_extract (vs := [.agg #[.slice oce 4 cce, .slice ote 1 cte, .int .i64 9], .slice oRe 1 cRe, .slice oMe 1 cMe]) rfl rfl) rfl (al_take (i := 12) rfl (by kernel_rfl) (by kernel_rfl) (by kernel_rfl) rfl (fun _ _ _ h => h) (op_extract (vs := [.agg #[.slice oce 4 cce, .slice ote 1 cte, .int .i64 9], .slice oRe 1 cRe, .slice oMe 1 cMe]) rfl rfl) rfl ?_)))
       refine al_step0 (i := 14) rfl (by kernel_rfl) (op_storeN (j := 0) hS sz_28 rfl rfl rfl rfl rfl (by simp [Value.oneCell'])) ?_
       clear hS
       rintro _ w hS; (try simp only [List.nil_append, List.cons_append, List.set] at hS)
       refine ⟨no_need (by kernel_rfl), ?_⟩
       refine al_take (i := 15) rfl (by kernel_rfl) (by kernel_rfl) (by kernel_rfl) rfl (fun _ _ _ h => h) (op_assign rfl) rfl (al_take (i := 16) rfl (by kernel_rfl) (by kernel_rfl) (by kernel_rfl) rfl (fun _ _ _ h => h) (op_assign rfl) rfl ?_)
       exact K8 _ _ _ _ (by kernel_rfl) (by exact ⟨_, b19, oce, ote, oRe, oMe, cce, cte, cRe, cMe, rfl, hcur, hCe, hTe, hRe, hMe, hS⟩) ((Sub.cons rfl (Sub.cons rfl (Sub.cons rfl (Sub.cons rfl (Sub.cons rfl (Sub.cons rfl (Sub.cons rfl (Sub.cons rfl (Sub.cons rfl (Sub.cons rfl (Sub.cons rfl (Sub.cons rfl (Sub.cons rfl (Sub.cons rfl Sub.nil)))))))))))))))
      ·
       refine wpOp_of_opk (i := 7) rfl ha (op_buildSlice (el := 46) (is := [0]) (xs := [.tmp 76]) (sz := 3) (cs := [.int .i64 4, .int .i64 0, .slice s75 1 1]) hS rfl rfl (fun w => by kernel_rfl) rfl (by decide)) ?_
       clear hS
       rintro _ w ⟨s77, rfl, hS⟩
       obtain ⟨G77, hl77, hS77, hMB⟩ := SS.give' (MB : List Mk) [] EMk.mono hS (by decide) (by exact (Rows.nil (sz := 3) (E := EMk) _).snoc rfl ⟨_, rfl, hJ8, by decide, by decide⟩) rfl
       clear hS
       have hS := hS77
       clear hS77
       (try simp only [List.nil_append, List.cons_append] at hS)
       (try replace hCk := hCk.mono ECell.mono hl77)
       (try replace hTk := hTk.mono EInt.mono hl77)
       (try replace hCm := hCm.mono ECell.mono hl77)
       (try replace hTm := hTm.mono EInt.mono hl77)
       (try replace hI8 := hI8.mono EInt.mono hl77)
       (try replace hJ8 := hJ8.mono EInt.mono hl77)
       (try replace hMB := hMB.mono EMk.mono hl77)
       (try replace hCe := hCe.mono ECell.mono hl77)
       (try replace hTe := hTe.mono EInt.mono hl77)
       (try replace hRe := hRe.mono EInt.mono hl77)
       (try replace hMe := hMe.mono EMk.mono hl77)
       (try replace hcur := hcur.trans hl77)
       have hT := hT.back hS (by first | exact Le.refl _ | assumption) (fun x hx => by try simp only [bkA, bkB, bkC, bkD, bkE] at hx; (rcases hx with rfl | rfl | rfl | rfl) <;> simp)
       refine ⟨fun _ _ => hT, ?_⟩
       refine al_at ?_ (ha.put (blt_lt rfl) _)
       refine al_step (i := 2) rfl (by kernel_rfl) rfl (op_buildSlice (el := 3) (is := [0]) (xs := [.tmp 71]) (sz := 1) (cs := [.int .i64 (2)]) hS rfl rfl (fun w => by kernel_rfl) rfl (by decide)) ?_
       clear hS
       rintro _ w ⟨s72, rfl, hS⟩
       obtain ⟨G72, hl72, hS72, hI8⟩ := SS.give' ([2] : List Int) [] EInt.mono hS (by decide) ((Rows.ints (l := [2]) (by decide)).mono EInt.mono (fun b o hb => by cases hb)) rfl
       clear hS
       have hS := hS72
       clear hS72
       (try simp only [List.nil_append, List.cons_append] at hS)
       (try replace hCk := hCk.mono ECell.mono hl72)
       (try replace hTk := hTk.mono EInt.mono hl72)
       (try replace hCm := hCm.mono ECell.mono hl72)
       (try replace hTm := hTm.mono EInt.mono hl72)
       (try replace hI8 := hI8.mono EInt.mono hl72)
       (try replace hJ8 := hJ8.mono EInt.mono hl72)
       (try replace hMB := hMB.mono EMk.mono hl72)
       (try replace hCe := hCe.mono ECell.mono hl72)
       (try replace hTe := hTe.mono EInt.mono hl72)
       (try replace hRe := hRe.mono EInt.mono hl72)
       (try replace hMe := hMe.mono EMk.mono hl72)
       (try replace hcur := hcur.trans hl72)
       have hT := hT.back hS (by first | exact Le.refl _ | assumption) (fun x hx => by try simp only [bkA, bkB, bkC, bkD, bkE] at hx; (rcases hx with rfl | rfl | rfl | rfl) <;> simp)
       refine ⟨fun _ _ => hT, ?_⟩
       refine al_step (i := 8) rfl (by kernel_rfl) rfl (op_call_rt hS cf_16 rfl (fun _ => .inl rfl) (ColR.mono) (gc_Collect_c _ _ hS.hold _ HM [3] 9 (heap_ hCm hTm) okM.slots.ok (by decide) _ [2] hI8 _ MB hMB (by decide) (by decide) (by decide) (by unfold MkOk; decide) (by decide) (by decide) (by decide))) ?_
       clear hS
       rintro v78 w ⟨G78, hl78, hR78, hS⟩
       obtain ⟨oce, cce, ote, cte, oRe, cRe, oMe, cMe, rfl, hCe, hTe, hRe, hMe⟩ := colX hR78 c3c c3t c3r c3m
       (try replace hCk := hCk.mono ECell.mono hl78)
       (try replace hTk := hTk.mono EInt.mono hl78)
       (try replace hCm := hCm.mono ECell.mono hl78)
       (try replace hTm := hTm.mono EInt.mono hl78)
       (try replace hI8 := hI8.mono EInt.mono hl78)
       (try replace hJ8 := hJ8.mono EInt.mono hl78)
       (try replace hMB := hMB.mono EMk.mono hl78)
       (try replace hCe := hCe.mono ECell.mono hl78)
       (try replace hTe := hTe.mono EInt.mono hl78)
       (try replace hRe := hRe.mono EInt.mono hl78)
       (try replace hMe := hMe.mono EMk.mono hl78)
       (try replace hcur := hcur.trans hl78)
       have hT := hT.back hS (by first | exact Le.refl _ | assumption) (fun x hx => by try simp only [bkA, bkB, bkC, bkD, bkE] at hx; (rcases hx with rfl | rfl | rfl | rfl) <;> simp)
       refine ⟨fun _ _ => hT, ?_⟩
       refine al_take (i := 9) rfl (by kernel_rfl) (by kernel_rfl) (by kernel_rfl) rfl (fun _ _ _ h => h) (op_move rfl) rfl (al_take (i := 10) rfl (by kernel_rfl) (by kernel_rfl) (by kernel_rfl) rfl (fun _ _ _ h => h) (op_extract (vs := [.agg #[.slice oce 4 cce, .slice ote 1 cte, .int .i64 9], .slice oRe 1 cRe, .slice oMe 1 cMe]) rfl rfl) rfl (al_take (i := 11) rfl (by kernel_rfl) (by kernel_rfl) (by kernel_rfl) rfl (fun _ _ _ h => h) (op_extract (vs := [.agg #[.slice oce 4 cce, .slice ote 1 cte, .int .i64 9], .slice oRe 1 cRe, .slice oMe 1 cMe]) rfl rfl) rfl (al_take (i := 12) rfl (by kernel_rfl) (by kernel_rfl) (by kernel_rfl) rfl (fun _ _ _ h => h) (op_extract (vs := [.agg #[.slice oce 4 cce, .slice ote 1 cte, .int .i64 9], .slice oRe 1 cRe, .slice oMe 1 cMe]) rfl rfl) rfl ?_)))
       refine al_step0 (i := 14) rfl (by kernel_rfl) (op_storeN (j := 0) hS sz_28 rfl rfl rfl rfl rfl (by simp [Value.oneCell'])) ?_
       clear hS
       rintro _ w hS; (try simp only [List.nil_append, List.cons_append, List.set] at hS)
       refine ⟨no_need (by kernel_rfl), ?_⟩
       refine al_take (i := 15) rfl (by kernel_rfl) (by kernel_rfl) (by kernel_rfl) rfl (fun _ _ _ h => h) (op_assign rfl) rfl (al_take (i := 16) rfl (by kernel_rfl) (by kernel_rfl) (by kernel_rfl) rfl (fun _ _ _ h => h) (op_assign rfl) rfl ?_)
       exact K8 _ _ _ _ (by kernel_rfl) (by exact ⟨_, b19, oce, ote, oRe, oMe, cce, cte, cRe, cMe, rfl, hcur, hCe, hTe, hRe, hMe, hS⟩) ((Sub.cons rfl (Sub.cons rfl (Sub.cons rfl (Sub.cons rfl (Sub.cons rfl (Sub.cons rfl (Sub.cons rfl (Sub.cons rfl (Sub.cons rfl (Sub.cons rfl (Sub.cons rfl (Sub.cons rfl (Sub.cons rfl (Sub.cons rfl Sub.nil)))))))))))))))
   ·
    refine wpOp_of_opk (i := 13) rfl ha (op_alloc hS el_28 rfl) ?_
    clear hS
    rintro _ w ⟨b19, rfl, hS⟩
    have hT := hT.back hS (by first | exact Le.refl _ | assumption) (fun x hx => by try simp only [bkA, bkB, bkC, bkD, bkE] at hx; (rcases hx with rfl | rfl | rfl | rfl) <;> simp)
    refine ⟨fun _ _ => hT, ?_⟩
    refine al_at ?_ (ha.put (blt_lt rfl) _)
    refine al_two (i := 2) (j := 5) (by kernel_rfl) (fun a ha => ?_) (fun a ha => ?_)
    ·
     refine wpOp_of_opk (i := 2) rfl ha (op_buildSlice (el := 3) (is := [0]) (xs := [.tmp 71]) (sz := 1) (cs := [.int .i64 (2)]) hS rfl rfl (fun w => by kernel_rfl) rfl (by decide)) ?_
     clear hS
     rintro _ w ⟨s72, rfl, hS⟩
     obtain ⟨G72, hl72, hS72, hI8⟩ := SS.give' ([2] : List Int) [] EInt.mono hS (by decide) ((Rows.ints (l := [2]) (by decide)).mono EInt.mono (fun b o hb => by cases hb)) rfl
     clear hS
     have hS := hS72
     clear hS72
     (try simp only [List.nil_append, List.cons_append] at hS)
     (try replace hCk := hCk.mono ECell.mono hl72)
     (try replace hTk := hTk.mono EInt.mono hl72)
     (try replace hCm := hCm.mono ECell.mono hl72)
     (try replace hTm := hTm.mono EInt.mono hl72)
     (try replace hI8 := hI8.mono EInt.mono hl72)
     (try replace hJ8 := hJ8.mono EInt.mono hl72)
     (try replace hMB := hMB.mono EMk.mono hl72)
     (try replace hCe := hCe.mono ECell.mono hl72)
     (try replace hTe := hTe.mono EInt.mono hl72)
     (try replace hRe := hRe.mono EInt.mono hl72)
     (try replace hMe := hMe.mono EMk.mono hl72)
     (try replace hcur := hcur.trans hl72)
     have hT := hT.back hS (by first | exact Le.refl _ | assumption) (fun x hx => by try simp only [bkA, bkB, bkC, bkD, bkE] at hx; (rcases hx with rfl | rfl | rfl | rfl) <;> simp)
     refine ⟨fun _ _ => hT, ?_⟩
     refine al_at ?_ (ha.put (blt_lt rfl) _)
     refine al_step (i := 5) rfl (by kernel_rfl) rfl (op_buildSlice (el := 3) (is := [0]) (xs := [.tmp 74]) (sz := 1) (cs := [.int .i64 (2)]) hS rfl rfl (fun w => by kernel_rfl) rfl (by decide)) ?_
     clear hS
     rintro _ w ⟨s75, rfl, hS⟩
     obtain ⟨G75, hl75, hS75, hJ8⟩ := SS.give' ([2] : List Int) [] EInt.mono hS (by decide) ((Rows.ints (l := [2]) (by decide)).mono EInt.mono (fun b o hb => by cases hb)) rfl
     clear hS
     have hS := hS75
     clear hS75
     (try simp only [List.nil_append, List.cons_append] at hS)
     (try replace hCk := hCk.mono ECell.mono hl75)
     (try replace hTk := hTk.mono EInt.mono hl75)
     (try replace hCm := hCm.mono ECell.mono hl75)
     (try replace hTm := hTm.mono EInt.mono hl75)
     (try replace hI8 := hI8.mono EInt.mono hl75)
     (try replace hJ8 := hJ8.mono EInt.mono hl75)
     (try replace hMB := hMB.mono EMk.mono hl75)
     (try replace hCe := hCe.mono ECell.mono hl75)
     (try replace hTe := hTe.mono EInt.mono hl75)
     (try replace hRe := hRe.mono EInt.mono hl75)
     (try replace hMe := hMe.mono EMk.mono hl75)
     (try replace hcur := hcur.trans hl75)
     have hT := hT.back hS (by first | exact Le.refl _ | assumption) (fun x hx => by try simp only [bkA, bkB, bkC, bkD, bkE] at hx; (rcases hx with rfl | rfl | rfl | rfl) <;> simp)
     refine ⟨fun _ _ => hT, ?_⟩
     refine al_step (i := 6) rfl (by kernel_rfl) rfl (op_call_sc hS cf_30 rfl (R08_Mark_c _ _ hS.hold _ HK [] 9 (heap_ hCk hTk) s75 1 1)) ?_
     clear hS
     rintro _ w ⟨rfl, hS⟩
     have hT := hT.back hS (by first | exact Le.refl _ | assumption) (fun x hx => by try simp only [bkA, bkB, bkC, bkD, bkE] at hx; (rcases hx with rfl | rfl | rfl | rfl) <;> simp)
     refine ⟨fun _ _ => hT, ?_⟩
     refine al_step (i := 7) rfl (by kernel_rfl) rfl (op_buildSlice (el := 46) (is := [0]) (xs := [.tmp 76]) (sz := 3) (cs := [.int .i64 4, .int .i64 0, .slice s75 1 1]) hS rfl rfl (fun w => by kernel_rfl) rfl (by decide)) ?_
     clear hS
     rintro _ w ⟨s77, rfl, hS⟩
     obtain ⟨G77, hl77, hS77, hMB⟩ := SS.give' (MB : List Mk) [] EMk.mono hS (by decide) (by exact (Rows.nil (sz := 3) (E := EMk) _).snoc rfl ⟨_, rfl, hJ8, by decide, by decide⟩) rfl
     clear hS
     have hS := hS77
     clear hS77
     (try simp only [List.nil_append, List.cons_append] at hS)
     (try replace hCk := hCk.mono ECell.mono hl77)
     (try replace hTk := hTk.mono EInt.mono hl77)
     (try replace hCm := hCm.mono ECell.mono hl77)
     (try replace hTm := hTm.mono EInt.mono hl77)
     (try replace hI8 := hI8.mono EInt.mono hl77)
     (try replace hJ8 := hJ8.mono EInt.mono hl77)
     (try replace hMB := hMB.mono EMk.mono hl77)
     (try replace hCe := hCe.mono ECell.mono hl77)
     (try replace hTe := hTe.mono EInt.mono hl77)
     (try replace hRe := hRe.mono EInt.mono hl77)
     (try replace hMe := hMe.mono EMk.mono hl77)
     (try replace hcur := hcur.trans hl77)
     have hT := hT.back hS (by first | exact Le.refl _ | assumption) (fun x hx => by try simp only [bkA, bkB, bkC, bkD, bkE] at hx; (rcases hx with rfl | rfl | rfl | rfl) <;> simp)
     refine ⟨fun _ _ => hT, ?_⟩
     refine al_step (i := 8) rfl (by kernel_rfl) rfl (op_call_rt hS cf_16 rfl (fun _ => .inl rfl) (ColR.mono) (gc_Collect_c _ _ hS.hold _ HM [3] 9 (heap_ hCm hTm) okM.slots.ok (by decide) _ [2] hI8 _ MB hMB (by decide) (by decide) (by decide) (by unfold MkOk; decide) (by decide) (by decide) (by decide))) ?_
     clear hS
     rintro v78 w ⟨G78, hl78, hR78, hS⟩
     obtain ⟨oce, cce, ote, cte, oRe, cRe, oMe, cMe, rfl, hCe, hTe, hRe, hMe⟩ := colX hR78 c3c c3t c3r c3m
     (try replace hCk := hCk.mono ECell.mono hl78)
     (try replace hTk := hTk.mono EInt.mono hl78)
     (try replace hCm := hCm.mono ECell.mono hl78)
     (try replace hTm := hTm.mono EInt.mono hl78)
     (try replace hI8 := hI8.mono EInt.mono hl78)
     (try replace hJ8 := hJ8.mono EInt.mono hl78)
     (try replace hMB := hMB.mono EMk.mono hl78)
     (try replace hCe := hCe.mono ECell.mono hl78)
     (try replace hTe := hTe.mono EInt.mono hl78)
     (try replace hRe := hRe.mono EInt.mono hl78)
     (try replace hMe := hMe.mono EMk.mono hl78)
     (try replace hcur := hcur.trans hl78)
     have hT := hT.back hS (by first | exact Le.refl _ | assumption) (fun x hx => by try simp only [bkA, bkB, bkC, bkD, bkE] at hx; (rcases hx with rfl | rfl | rfl | rfl) <;> simp)
     refine ⟨fun _ _ => hT, ?_⟩
     refine al_take (i := 9) rfl (by kernel_rfl) (by kernel_rfl) (by kernel_rfl) rfl (fun _ _ _ h => h) (op_move rfl) rfl (al_take (i := 10) rfl (by kernel_rfl) (by kernel_rfl) (by kernel_rfl) rfl (fun _ _ _ h => h) (op_extract (vs := [.agg #[.slice oce 4 cce, .slice ote 1 cte, .int .i64 9], .slice oRe 1 cRe, .slice oMe 1 cMe]) rfl rfl) rfl (al_take (i := 11) rfl (by kernel_rfl) (by kernel_rfl) (by kernel_rfl) rfl (fun _ _ _ h => h) (op_extract (vs := [.agg #[.slice oce 4 cce, .slice ote 1 cte, .int .i64 9], .slice oRe 1 cRe, .slice oMe 1 cMe]) rfl rfl) rfl (al_take (i := 12) rfl (by kernel_rfl) (by kernel_rfl) (by kernel_rfl) rfl (fun _ _ _ h => h) (op_extract (vs := [.agg #[.slice oce 4 cce, .slice ote 1 cte, .int .i64 9], .slice oRe 1 cRe, .slice oMe 1 cMe]) rfl rfl) rfl ?_)))
     refine al_step0 (i := 14) rfl (by kernel_rfl) (op_storeN (j := 0) hS sz_28 rfl rfl rfl rfl rfl (by simp [Value.oneCell'])) ?_
     clear hS
     rintro _ w hS; (try simp only [List.nil_append, List.cons_append, List.set] at hS)
     refine ⟨no_need (by kernel_rfl), ?_⟩
     refine al_take (i := 15) rfl (by kernel_rfl) (by kernel_rfl) (by kernel_rfl) rfl (fun _ _ _ h => h) (op_assign rfl) rfl (al_take (i := 16) rfl (by kernel_rfl) (by kernel_rfl) (by kernel_rfl) rfl (fun _ _ _ h => h) (op_assign rfl) rfl ?_)
     exact K8 _ _ _ _ (by kernel_rfl) (by exact ⟨_, b19, oce, ote, oRe, oMe, cce, cte, cRe, cMe, rfl, hcur, hCe, hTe, hRe, hMe, hS⟩) ((Sub.cons rfl (Sub.cons rfl (Sub.cons rfl (Sub.cons rfl (Sub.cons rfl (Sub.cons rfl (Sub.cons rfl (Sub.cons rfl (Sub.cons rfl (Sub.cons rfl (Sub.cons rfl (Sub.cons rfl (Sub.cons rfl (Sub.cons rfl Sub.nil)))))))))))))))
    ·
     refine wpOp_of_opk (i := 5) rfl ha (op_buildSlice (el := 3) (is := [0]) (xs := [.tmp 74]) (sz := 1) (cs := [.int .i64 (2)]) hS rfl rfl (fun w => by kernel_rfl) rfl (by decide)) ?_
     clear hS
     rintro _ w ⟨s75, rfl, hS⟩
     obtain ⟨G75, hl75, hS75, hJ8⟩ := SS.give' ([2] : List Int) [] EInt.mono hS (by decide) ((Rows.ints (l := [2]) (by decide)).mono EInt.mono (fun b o hb => by cases hb)) rfl
     clear hS
     have hS := hS75
     clear hS75
     (try simp only [List.nil_append, List.cons_append] at hS)
     (try replace hCk := hCk.mono ECell.mono hl75)
     (try replace hTk := hTk.mono EInt.mono hl75)
     (try replace hCm := hCm.mono ECell.mono hl75)
     (try replace hTm := hTm.mono EInt.mono hl75)
     (try replace hI8 := hI8.mono EInt.mono hl75)
     (try replace hJ8 := hJ8.mono EInt.mono hl75)
     (try replace hMB := hMB.mono EMk.mono hl75)
     (try replace hCe := hCe.mono ECell.mono hl75)
     (try replace hTe := hTe.mono EInt.mono hl75)
     (try replace hRe := hRe.mono EInt.mono hl75)
     (try replace hMe := hMe.mono EMk.mono hl75)
     (try replace hcur := hcur.trans hl75)
     have hT := hT.back hS (by first | exact Le.refl _ | assumption) (fun x hx => by try simp only [bkA, bkB, bkC, bkD, bkE] at hx; (rcases hx with rfl | rfl | rfl | rfl) <;> simp)
     refine ⟨fun _ _ => hT, ?_⟩
     refine al_at ?_ (ha.put (blt_lt rfl) _)
     refine al_two (i := 2) (j := 6) (by kernel_rfl) (fun a ha => ?_) (fun a ha => ?_)
     ·
      refine wpOp_of_opk (i := 2) rfl ha (op_buildSlice (el := 3) (is := [0]) (xs := [.tmp 71]) (sz := 1) (cs := [.int .i64 (2)]) hS rfl rfl (fun w => by kernel_rfl) rfl (by decide)) ?_
      clear hS
      rintro _ w ⟨s72, rfl, hS⟩
      obtain ⟨G72, hl72, hS72, hI8⟩ := SS.give' ([2] : List Int) [] EInt.mono hS (by decide) ((Rows.ints (l := [2]) (by decide)).mono EInt.mono (fun b o hb => by cases hb)) rfl
      clear hS
      have hS := hS72
      clear hS72
      (try simp only [List.nil_append, List.cons_append] at hS)
      (try replace hCk := hCk.mono ECell.mono hl72)
      (try replace hTk := hTk.mono EInt.mono hl72)
      (try replace hCm := hCm.mono ECell.mono hl72)
      (try replace hTm := hTm.mono EInt.mono hl72)
      (try replace hI8 := hI8.mono EInt.mono hl72)
      (try replace hJ8 := hJ8.mono EInt.mono hl72)
      (try replace hMB := hMB.mono EMk.mono hl72)
      (try replace hCe := hCe.mono ECell.mono hl72)
      (try replace hTe := hTe.mono EInt.mono hl72)
      (try replace hRe := hRe.mono EInt.mono hl72)
      (try replace hMe := hMe.mono EMk.mono hl72)
      (try replace hcur := hcur.trans hl72)
      have hT := hT.back hS (by first | exact Le.refl _ | assumption) (fun x hx => by try simp only [bkA, bkB, bkC, bkD, bkE] at hx; (rcases hx with rfl | rfl | rfl | rfl) <;> simp)
      refine ⟨fun _ _ => hT, ?_⟩
      refine al_at ?_ (ha.put (blt_lt rfl) _)
      refine al_step (i := 6) rfl (by kernel_rfl) rfl (op_call_sc hS cf_30 rfl (R08_Mark_c _ _ hS.hold _ HK [] 9 (heap_ hCk hTk) s75 1 1)) ?_
      clear hS
      rintro _ w ⟨rfl, hS⟩
      have hT := hT.back hS (by first | exact Le.refl _ | assumption) (fun x hx => by try simp only [bkA, bkB, bkC, bkD, bkE] at hx; (rcases hx with rfl | rfl | rfl | rfl) <;> simp)
      refine ⟨fun _ _ => hT, ?_⟩
      refine al_step (i := 7) rfl (by kernel_rfl) rfl (op_buildSlice (el := 46) (is := [0]) (xs := [.tmp 76]) (sz := 3) (cs := [.int .i64 4, .int .i64 0, .slice s75 1 1]) hS rfl rfl (fun w => by kernel_rfl) rfl (by decide)) ?_
      clear hS
      rintro _ w ⟨s77, rfl, hS⟩
      obtain ⟨G77, hl77, hS77, hMB⟩ := SS.give' (MB : List Mk) [] EMk.mono hS (by decide) (by exact (Rows.nil (sz := 3) (E := EMk) _).snoc rfl ⟨_, rfl, hJ8, by decide, by decide⟩) rfl
      clear hS
      have hS := hS77
      clear hS77
      (try simp only [List.nil_append, List.cons_append] at hS)
      (try replace hCk := hCk.mono ECell.mono hl77)
      (try replace hTk := hTk.mono EInt.mono hl77)
      (try replace hCm := hCm.mono ECell.mono hl77)
      (try replace hTm := hTm.mono EInt.mono hl77)
      (try replace hI8 := hI8.mono EInt.mono hl77)
      (try replace hJ8 := hJ8.mono EInt.mono hl77)
      (try replace hMB := hMB.mono EMk.mono hl77)
      (try replace hCe := hCe.mono ECell.mono hl77)
      (try replace hTe := hTe.mono EInt.mono hl77)
      (try replace hRe := hRe.mono EInt.mono hl77)
      (try replace hMe := hMe.mono EMk.mono hl77)
      (try replace hcur := hcur.trans hl77)
      have hT := hT.back hS (by first | exact Le.refl _ | assumption) (fun x hx => by try simp only [bkA, bkB, bkC, bkD, bkE] at hx; (rcases hx with rfl | rfl | rfl | rfl) <;> simp)
      refine ⟨fun _ _ => hT, ?_⟩
      refine al_step (i := 8) rfl (by kernel_rfl) rfl (op_call_rt hS cf_16 rfl (fun _ => .inl rfl) (ColR.mono) (gc_Collect_c _ _ hS.hold _ HM [3] 9 (heap_ hCm hTm) okM.slots.ok (by decide) _ [2] hI8 _ MB hMB (by decide) (by decide) (by decide) (by unfold MkOk; decide) (by decide) (by decide) (by decide))) ?_
      clear hS
      rintro v78 w ⟨G78, hl78, hR78, hS⟩
      obtain ⟨oce, cce, ote, cte, oRe, cRe, oMe, cMe, rfl, hCe, hTe, hRe, hMe⟩ := colX hR78 c3c c3t c3r c3m
      (try replace hCk := hCk.mono ECell.mono hl78)
      (try replace hTk := hTk.mono EInt.mono hl78)
      (try replace hCm := hCm.mono ECell.mono hl78)
      (try replace hTm := hTm.mono EInt.mono hl78)
      (try replace hI8 := hI8.mono EInt.mono hl78)
      (try replace hJ8 := hJ8.mono EInt.mono hl78)
      (try replace hMB := hMB.mono EMk.mono hl78)
      (try replace hCe := hCe.mono ECell.mono hl78)
      (try replace hTe := hTe.mono EInt.mono hl78)
      (try replace hRe := hRe.mono EInt.mono hl78)
      (try replace hMe := hMe.mono EMk.mono hl78)
      (try replace hcur := hcur.trans hl78)
      have hT := hT.back hS (by first | exact Le.refl _ | assumption) (fun x hx => by try simp only [bkA, bkB, bkC, bkD, bkE] at hx; (rcases hx with rfl | rfl | rfl | rfl) <;> simp)
      refine ⟨fun _ _ => hT, ?_⟩
      refine al_take (i := 9) rfl (by kernel_rfl) (by kernel_rfl) (by kernel_rfl) rfl (fun _ _ _ h => h) (op_move rfl) rfl (al_take (i := 10) rfl (by kernel_rfl) (by kernel_rfl) (by kernel_rfl) rfl (fun _ _ _ h => h) (op_extract (vs := [.agg #[.slice oce 4 cce, .slice ote 1 cte, .int .i64 9], .slice oRe 1 cRe, .slice oMe 1 cMe]) rfl rfl) rfl (al_take (i := 11) rfl (by kernel_rfl) (by kernel_rfl) (by kernel_rfl) rfl (fun _ _ _ h => h) (op_extract (vs := [.agg #[.slice oce 4 cce, .slice ote 1 cte, .int .i64 9], .slice oRe 1 cRe, .slice oMe 1 cMe]) rfl rfl) rfl (al_take (i := 12) rfl (by kernel_rfl) (by kernel_rfl) (by kernel_rfl) rfl (fun _ _ _ h => h) (op_extract (vs := [.agg #[.slice oce 4 cce, .slice ote 1 cte, .int .i64 9], .slice oRe 1 cRe, .slice oMe 1 cMe]) rfl rfl) rfl ?_)))
      refine al_step0 (i := 14) rfl (by kernel_rfl) (op_storeN (j := 0) hS sz_28 rfl rfl rfl rfl rfl (by simp [Value.oneCell'])) ?_
      clear hS
      rintro _ w hS; (try simp only [List.nil_append, List.cons_append, List.set] at hS)
      refine ⟨no_need (by kernel_rfl), ?_⟩
      refine al_take (i := 15) rfl (by kernel_rfl) (by kernel_rfl) (by kernel_rfl) rfl (fun _ _ _ h => h) (op_assign rfl) rfl (al_take (i := 16) rfl (by kernel_rfl) (by kernel_rfl) (by kernel_rfl) rfl (fun _ _ _ h => h) (op_assign rfl) rfl ?_)
      exact K8 _ _ _ _ (by kernel_rfl) (by exact ⟨_, b19, oce, ote, oRe, oMe, cce, cte, cRe, cMe, rfl, hcur, hCe, hTe, hRe, hMe, hS⟩) ((Sub.cons rfl (Sub.cons rfl (Sub.cons rfl (Sub.cons rfl (Sub.cons rfl (Sub.cons rfl (Sub.cons rfl (Sub.cons rfl (Sub.cons rfl (Sub.cons rfl (Sub.cons rfl (Sub.cons rfl (Sub.cons rfl (Sub.cons rfl Sub.nil)))))))))))))))
     ·
      refine wpOp_of_opk (i := 6) rfl ha (op_call_sc hS cf_30 rfl (R08_Mark_c _ _ hS.hold _ HK [] 9 (heap_ hCk hTk) s75 1 1)) ?_
      clear hS
      rintro _ w ⟨rfl, hS⟩
      have hT := hT.back hS (by first | exact Le.refl _ | assumption) (fun x hx => by try simp only [bkA, bkB, bkC, bkD, bkE] at hx; (rcases hx with rfl | rfl | rfl | rfl) <;> simp)
      refine ⟨fun _ _ => hT, ?_⟩
      refine al_at ?_ (ha.put (blt_lt rfl) _)
      refine al_two (i := 2) (j := 7) (by kernel_rfl) (fun a ha => ?_) (fun a ha => ?_)
      ·
       refine wpOp_of_opk (i := 2) rfl ha (op_buildSlice (el := 3) (is := [0]) (xs := [.tmp 71]) (sz := 1) (cs := [.int .i64 (2)]) hS rfl rfl (fun w => by kernel_rfl) rfl (by decide)) ?_
       clear hS
       rintro _ w ⟨s72, rfl, hS⟩
       obtain ⟨G72, hl72, hS72, hI8⟩ := SS.give' ([2] : List Int) [] EInt.mono hS (by decide) ((Rows.ints (l := [2]) (by decide)).mono EInt.mono (fun b o hb => by cases hb)) rfl
       clear hS
       have hS := hS72
       clear hS72
       (try simp only [List.nil_append, List.cons_append] at hS)
       (try replace hCk := hCk.mono ECell.mono hl72)
       (try replace hTk := hTk.mono EInt.mono hl72)
       (try replace hCm := hCm.mono ECell.mono hl72)
       (try replace hTm := hTm.mono EInt.mono hl72)
       (try replace hI8 := hI8.mono EInt.mono hl72)
       (try replace hJ8 := hJ8.mono EInt.mono hl72)
       (try replace hMB := hMB.mono EMk.mono hl72)
       (try replace hCe := hCe.mono ECell.mono hl72)
       (try replace hTe := hTe.mono EInt.mono hl72)
       (try replace hRe := hRe.mono EInt.mono hl72)
       (try replace hMe := hMe.mono EMk.mono hl72)
       (try replace hcur := hcur.trans hl72)
       have hT := hT.back hS (by first | exact Le.refl _ | assumption) (fun x hx => by try simp only [bkA, bkB, bkC, bkD, bkE] at hx; (rcases hx with rfl | rfl | rfl | rfl) <;> simp)
       refine ⟨fun _ _ => hT, ?_⟩
       refine al_at ?_ (ha.put (blt_lt rfl) _)
       refine al_step (i := 7) rfl (by kernel_rfl) rfl (op_buildSlice (el := 46) (is := [0]) (xs := [.tmp 76]) (sz := 3) (cs := [.int .i64 4, .int .i64 0, .slice s75 1 1]) hS rfl rfl (fun w => by kernel_rfl) rfl (by decide)) ?_
       clear hS
       rintro _ w ⟨s77, rfl, hS⟩
       obtain ⟨G77, hl77, hS77, hMB⟩ := SS.give' (MB : List Mk) [] EMk.mono hS (by decide) (by exact (Rows.nil (sz := 3) (E := EMk) _).snoc rfl ⟨_, rfl, hJ8, by decide, by decide⟩) rfl
       clear hS
       have hS := hS77
       clear hS77
       (try simp only [List.nil_append, List.cons_append] at hS)
       (try replace hCk := hCk.mono ECell.mono hl77)
       (try replace hTk := hTk.mono EInt.mono hl77)
       (try replace hCm := hCm.mono ECell.mono hl77)
       (try replace hTm := hTm.mono EInt.mono hl77)
       (try replace hI8 := hI8.mono EInt.mono hl77)
       (try replace hJ8 := hJ8.mono EInt.mono hl77)
       (try replace hMB := hMB.mono EMk.mono hl77)
       (try replace hCe := hCe.mono ECell.mono hl77)
       (try replace hTe := hTe.mono EInt.mono hl77)
       (try replace hRe := hRe.mono EInt.mono hl77)
       (try replace hMe := hMe.mono EMk.mono hl77)
       (try replace hcur := hcur.trans hl77)
       have hT := hT.back hS (by first | exact Le.refl _ | assumption) (fun x hx => by try simp only [bkA, bkB, bkC, bkD, bkE] at hx; (rcases hx with rfl | rfl | rfl | rfl) <;> simp)
       refine ⟨fun _ _ => hT, ?_⟩
       refine al_step (i := 8) rfl (by kernel_rfl) rfl (op_call_rt hS cf_16 rfl (fun _ => .inl rfl) (ColR.mono) (gc_Collect_c _ _ hS.hold _ HM [3] 9 (heap_ hCm hTm) okM.slots.ok (by decide) _ [2] hI8 _ MB hMB (by decide) (by decide) (by decide) (by unfold MkOk; decide) (by decide) (by decide) (by decide))) ?_
       clear hS
       rintro v78 w ⟨G78, hl78, hR78, hS⟩
       obtain ⟨oce, cce, ote, cte, oRe, cRe, oMe, cMe, rfl, hCe, hTe, hRe, hMe⟩ := colX hR78 c3c c3t c3r c3m
       (try replace hCk := hCk.mono ECell.mono hl78)
       (try replace hTk := hTk.mono EInt.mono hl78)
       (try replace hCm := hCm.mono ECell.mono hl78)
       (try replace hTm := hTm.mono EInt.mono hl78)
       (try replace hI8 := hI8.mono EInt.mono hl78)
       (try replace hJ8 := hJ8.mono EInt.mono hl78)
       (try replace hMB := hMB.mono EMk.mono hl78)
       (try replace hCe := hCe.mono ECell.mono hl78)
       (try replace hTe := hTe.mono EInt.mono hl78)
       (try replace hRe := hRe.mono EInt.mono hl78)
       (try replace hMe := hMe.mono EMk.mono hl78)
       (try replace hcur := hcur.trans hl78)
       have hT := hT.back hS (by first | exact Le.refl _ | assumption) (fun x hx => by try simp only [bkA, bkB, bkC, bkD, bkE] at hx; (rcases hx with rfl | rfl | rfl | rfl) <;> simp)
       refine ⟨fun _ _ => hT, ?_⟩
       refine al_take (i := 9) rfl (by kernel_rfl) (by kernel_rfl) (by kernel_rfl) rfl (fun _ _ _ h => h) (op_move rfl) rfl (al_take (i := 10) rfl (by kernel_rfl) (by kernel_rfl) (by kernel_rfl) rfl (fun _ _ _ h => h) (op_extract (vs := [.agg #[.slice oce 4 cce, .slice ote 1 cte, .int .i64 9], .slice oRe 1 cRe, .slice oMe 1 cMe]) rfl rfl) rfl (al_take (i := 11) rfl (by kernel_rfl) (by kernel_rfl) (by kernel_rfl) rfl (fun _ _ _ h => h) (op_extract (vs := [.agg #[.slice oce 4 cce, .slice ote 1 cte, .int .i64 9], .slice oRe 1 cRe, .slice oMe 1 cMe]) rfl rfl) rfl (al_take (i := 12) rfl (by kernel_rfl) (by kernel_rfl) (by kernel_rfl) rfl (fun _ _ _ h => h) (op_extract (vs := [.agg #[.slice oce 4 cce, .slice ote 1 cte, .int .i64 9], .slice oRe 1 cRe, .slice oMe 1 cMe]) rfl rfl) rfl ?_)))
       refine al_step0 (i := 14) rfl (by kernel_rfl) (op_storeN (j := 0) hS sz_28 rfl rfl rfl rfl rfl (by simp [Value.oneCell'])) ?_
       clear hS
       rintro _ w hS; (try simp only [List.nil_append, List.cons_append, List.set] at hS)
       refine ⟨no_need (by kernel_rfl), ?_⟩
       refine al_take (i := 15) rfl (by kernel_rfl) (by kernel_rfl) (by kernel_rfl) rfl (fun _ _ _ h => h) (op_assign rfl) rfl (al_take (i := 16) rfl (by kernel_rfl) (by kernel_rfl) (by kernel_rfl) rfl (fun _ _ _ h => h) (op_assign rfl) rfl ?_)
       exact K8 _ _ _ _ (by kernel_rfl) (by exact ⟨_, b19, oce, ote, oRe, oMe, cce, cte, cRe, cMe, rfl, hcur, hCe, hTe, hRe, hMe, hS⟩) ((Sub.cons rfl (Sub.cons rfl (Sub.cons rfl (Sub.cons rfl (Sub.cons rfl (Sub.cons rfl (Sub.cons rfl (Sub.cons rfl (Sub.cons rfl (Sub.cons rfl (Sub.cons rfl (Sub.cons rfl (Sub.cons rfl (Sub.cons rfl Sub.nil)))))))))))))))
      ·
       refine wpOp_of_opk (i := 7) rfl ha (op_buildSlice (el := 46) (is := [0]) (xs := [.tmp 76]) (sz := 3) (cs := [.int .i64 4, .int .i64 0, .slice s75 1 1]) hS rfl rfl (fun w => by kernel_rfl) rfl (by decide)) ?_
       clear hS
       rintro _ w ⟨s77, rfl, hS⟩
       obtain ⟨G77, hl77, hS77, hMB⟩ := SS.give' (MB : List Mk) [] EMk.mono hS (by decide) (by exact (Rows.nil (sz := 3) (E := EMk) _).snoc rfl ⟨_, rfl, hJ8, by decide, by decide⟩) rfl
       clear hS
       have hS := hS77
       clear hS77
       (try simp only [List.nil_append, List.cons_append] at hS)
       (try replace hCk := hCk.mono ECell.mono hl77)
       (try replace hTk := hTk.mono EInt.mono hl77)
       (try replace hCm := hCm.mono ECell.mono hl77)
       (try replace hTm := hTm.mono EInt.mono hl77)
       (try replace hI8 := hI8.mono EInt.mono hl77)
       (try replace hJ8 := hJ8.mono EInt.mono hl77)
       (try replace hMB := hMB.mono EMk.mono hl77)
       (try replace hCe := hCe.mono ECell.mono hl77)
       (try replace hTe := hTe.mono EInt.mono hl77)
       (try replace hRe := hRe.mono EInt.mono hl77)
       (try replace hMe := hMe.mono EMk.mono hl77)
       (try replace hcur := hcur.trans hl77)
       have hT := hT.back hS (by first | exact Le.refl _ | assumption) (fun x hx => by try simp only [bkA, bkB, bkC, bkD, bkE] at hx; (rcases hx with rfl | rfl | rfl | rfl) <;> simp)
       refine ⟨fun _ _ => hT, ?_⟩
       refine al_at ?_ (ha.put (blt_lt rfl) _)
       refine al_step (i := 2) rfl (by kernel_rfl) rfl (op_buildSlice (el := 3) (is := [0]) (xs := [.tmp 71]) (sz := 1) (cs := [.int .i64 (2)]) hS rfl rfl (fun w => by kernel_rfl) rfl (by decide)) ?_
       clear hS
       rintro _ w ⟨s72, rfl, hS⟩
       obtain ⟨G72, hl72, hS72, hI8⟩ := SS.give' ([2] : List Int) [] EInt.mono hS (by decide) ((Rows.ints (l := [2]) (by decide)).mono EInt.mono (fun b o hb => by cases hb)) rfl
       clear hS
       have hS := hS72
       clear hS72
       (try simp only [List.nil_append, List.cons_append] at hS)
       (try replace hCk := hCk.mono ECell.mono hl72)
       (try replace hTk := hTk.mono EInt.mono hl72)
       (try replace hCm := hCm.mono ECell.mono hl72)
       (try replace hTm := hTm.mono EInt.mono hl72)
       (try replace hI8 := hI8.mono EInt.mono hl72)
       (try replace hJ8 := hJ8.mono EInt.mono hl72)
       (try replace hMB := hMB.mono EMk.mono hl72)
       (try replace hCe := hCe.mono ECell.mono hl72)
       (try replace hTe := hTe.mono EInt.mono hl72)
       (try replace hRe := hRe.mono EInt.mono hl72)
       (try replace hMe := hMe.mono EMk.mono hl72)
       (try replace hcur := hcur.trans hl72)
       have hT := hT.back hS (by first | exact Le.refl _ | assumption) (fun x hx => by try simp only [bkA, bkB, bkC, bkD, bkE] at hx; (rcases hx with rfl | rfl | rfl | rfl) <;> simp)
       refine ⟨fun _ _ => hT, ?_⟩
       refine al_step (i := 8) rfl (by kernel_rfl) rfl (op_call_rt hS cf_16 rfl (fun _ => .inl rfl) (ColR.mono) (gc_Collect_c _ _ hS.hold _ HM [3] 9 (heap_ hCm hTm) okM.slots.ok (by decide) _ [2] hI8 _ MB hMB (by decide) (by decide) (by decide) (by unfold MkOk; decide) (by decide) (by decide) (by decide))) ?_
       clear hS
       rintro v78 w ⟨G78, hl78, hR78, hS⟩
       obtain ⟨oce, cce, ote, cte, oRe, cRe, oMe, cMe, rfl, hCe, hTe, hRe, hMe⟩ := colX hR78 c3c c3t c3r c3m
       (try replace hCk := hCk.mono ECell.mono hl78)
       (try replace hTk := hTk.mono EInt.mono hl78)
       (try replace hCm := hCm.mono ECell.mono hl78)
       (try replace hTm := hTm.mono EInt.mono hl78)
       (try replace hI8 := hI8.mono EInt.mono hl78)
       (try replace hJ8 := hJ8.mono EInt.mono hl78)
       (try replace hMB := hMB.mono EMk.mono hl78)
       (try replace hCe := hCe.mono ECell.mono hl78)
       (try replace hTe := hTe.mono EInt.mono hl78)
       (try replace hRe := hRe.mono EInt.mono hl78)
       (try replace hMe := hMe.mono EMk.mono hl78)
       (try replace hcur := hcur.trans hl78)
       have hT := hT.back hS (by first | exact Le.refl _ | assumption) (fun x hx => by try simp only [bkA, bkB, bkC, bkD, bkE] at hx; (rcases hx with rfl | rfl | rfl | rfl) <;> simp)
       refine ⟨fun _ _ => hT, ?_⟩
       refine al_take (i := 9) rfl (by kernel_rfl) (by kernel_rfl) (by kernel_rfl) rfl (fun _ _ _ h => h) (op_move rfl) rfl (al_take (i := 10) rfl (by kernel_rfl) (by kernel_rfl) (by kernel_rfl) rfl (fun _ _ _ h => h) (op_extract (vs := [.agg #[.slice oce 4 cce, .slice ote 1 cte, .int .i64 9], .slice oRe 1 cRe, .slice oMe 1 cMe]) rfl rfl) rfl (al_take (i := 11) rfl (by kernel_rfl) (by kernel_rfl) (by kernel_rfl) rfl (fun _ _ _ h => h) (op_extract (vs := [.agg #[.slice oce 4 cce, .slice ote 1 cte, .int .i64 9], .slice oRe 1 cRe, .slice oMe 1 cMe]) rfl rfl) rfl (al_take (i := 12) rfl (by kernel_rfl) (by kernel_rfl) (by kernel_rfl) rfl (fun _ _ _ h => h) (op_extract (vs := [.agg #[.slice oce 4 cce, .slice ote 1 cte, .int .i64 9], .slice oRe 1 cRe, .slice oMe 1 cMe]) rfl rfl) rfl ?_)))
       refine al_step0 (i := 14) rfl (by kernel_rfl) (op_storeN (j := 0) hS sz_28 rfl rfl rfl rfl rfl (by simp [Value.oneCell'])) ?_
       clear hS
       rintro _ w hS; (try simp only [List.nil_append, List.cons_append, List.set] at hS)
       refine ⟨no_need (by kernel_rfl), ?_⟩
       refine al_take (i := 15) rfl (by kernel_rfl) (by kernel_rfl) (by kernel_rfl) rfl (fun _ _ _ h => h) (op_assign rfl) rfl (al_take (i := 16) rfl (by kernel_rfl) (by kernel_rfl) (by kernel_rfl) rfl (fun _ _ _ h => h) (op_assign rfl) rfl ?_)
       exact K8 _ _ _ _ (by kernel_rfl) (by exact ⟨_, b19, oce, ote, oRe, oMe, cce, cte, cRe, cMe, rfl, hcur, hCe, hTe, hRe, hMe, hS⟩) ((Sub.cons rfl (Sub.cons rfl (Sub.cons rfl (Sub.cons rfl (Sub.cons rfl (Sub.cons rfl (Sub.cons rfl (Sub.cons rfl (Sub.cons rfl (Sub.cons rfl (Sub.cons rfl (Sub.cons rfl (Sub.cons rfl (Sub.cons rfl Sub.nil)))))))))))))))
  ·
   have hTo := hT
   clear hS hT
   rintro e w ⟨G78, b19, oce, ote, oRe, oMe, cce, cte, cRe, cMe, rfl, hcur2, hCe, hTe, hRe, hMe, hS⟩
   have hT := hTo.back hS (by first | exact Le.refl _ | assumption) (fun x hx => by try simp only [bkA, bkB, bkC, bkD, bkE] at hx; (rcases hx with rfl | rfl | rfl | rfl) <;> simp)
   clear hTo
   clear hcur
   have hcur := hcur2
   clear hcur2
   replace hCk := hCk.mono ECell.mono hcur
   replace hTk := hTk.mono EInt.mono hcur
   replace hCm := hCm.mono ECell.mono hcur
   replace hTm := hTm.mono EInt.mono hcur
   replace hCc := hCc.mono ECell.mono hcur
   replace hTc := hTc.mono EInt.mono hcur
   replace hRc := hRc.mono EInt.mono hcur
   refine al_done (by kernel_rfl) (pq_then (cw_seq ?_))
   clear hcur
   have hcur := Le.refl G78
   refine al_start' hS (hS.take 5) (by kernel_rfl) rfl (fun w hS hT => ?_)
   refine al_load (i := 0) rfl (by kernel_rfl) (by kernel_rfl) (by kernel_rfl) rfl (fun _ _ _ h => h) (by exact op_loadN agg_28 rfl (by rfl) (fun w hw k u hk => (hw.bcell (i := 4) rfl).trans hk)) rfl hT (al_take (i := 1) rfl (by kernel_rfl) (by kernel_rfl) (by kernel_rfl) rfl (fun _ _ _ h => h) (op_move rfl) rfl (al_load (i := 4) rfl (by kernel_rfl) (by kernel_rfl) (by kernel_rfl) rfl (fun _ _ _ h => h) (by exact op_loadN agg_28 rfl (by rfl) (fun w hw k u hk => (hw.bcell (i := 4) rfl).trans hk)) rfl hT (al_take (i := 5) rfl (by kernel_rfl) (by kernel_rfl) (by kernel_rfl) rfl (fun _ _ _ h => h) (op_move rfl) rfl ?_)))
   refine al_meet (fuel2 := 0) (ds2 := [9, 8, 7, 6, 5, 4, 3, 2, 1, 0]) (fun e w => ∃ (G89 : GH) (oL oV : Option Addr) (cL cV : Nat), e = [(3, .pointer (some ⟨b3, 0, none⟩)), (4, .int .i64 0), (7, .pointer (some ⟨b7, 0, none⟩)), (8, .int .i64 2), (11, .pointer (some ⟨b11, 0, none⟩)), (12, .bool true), (13, .pointer (some ⟨b13, 0, none⟩)), (14, .slice oRc 3 cRc), (15, .slice oMc 0 cMc), (16, .pointer (some ⟨b16, 0, none⟩)), (17, .slice oRd 0 cRd), (19, .pointer (some ⟨b19, 0, none⟩)), (20, .slice oRe 1 cRe), (21, .slice oMe 1 cMe), (22, .slice oL 4 cL), (23, .slice oV 4 cV)] ∧ Le G78 G89 ∧ RSl 1 EBool G89 (.slice oL 4 cL) [false, false, true, true] ∧ RSl 1 EInt G89 (.slice oV 4 cV) [-1, -1, 0, 1] ∧ SS G w0 G89 [.blk b19 28 [.slice oce 4 cce, .slice ote 1 cte, .int .i64 9], .blk b16 28 [.slice ocd 0 ccd, .slice otd 0 ctd, .int .i64 9], .blk b13 28 [.slice occ 2 ccc, .slice otc 0 ctc, .int .i64 9], .blk b11 28 [.slice ocm 4 ccm, .slice otm 1 ctm, .int .i64 9], .blk b7 28 [.slice ock 4 cck, .slice otk 0 ctk, .int .i64 9], .blk b3 28 [.slice oca 2 cca, .slice ota 0 cta, .int .i64 9]] w) (fun K9 => ?_) ?_
   ·
    refine al_two (i := 2) (j := 6) (by kernel_rfl) (fun a ha => ?_) (fun a ha => ?_)
    ·
     refine wpOp_of_opk (i := 2) rfl ha (op_buildSlice (el := 3) (is := [0]) (xs := [.tmp 83]) (sz := 1) (cs := [.int .i64 (2)]) hS rfl rfl (fun w => by kernel_rfl) rfl (by decide)) ?_
     clear hS
     rintro _ w ⟨s84, rfl, hS⟩
     obtain ⟨G84, hl84, hS84, hI9⟩ := SS.give' ([2] : List Int) [] EInt.mono hS (by decide) ((Rows.ints (l := [2]) (by decide)).mono EInt.mono (fun b o hb => by cases hb)) rfl
     clear hS
     have hS := hS84
     clear hS84
     (try simp only [List.nil_append, List.cons_append] at hS)
     (try replace hCk := hCk.mono ECell.mono hl84)
     (try replace hTk := hTk.mono EInt.mono hl84)
     (try replace hI9 := hI9.mono EInt.mono hl84)
     (try replace hJ9 := hJ9.mono EInt.mono hl84)
     (try replace hL9 := hL9.mono EBool.mono hl84)
     (try replace hV9 := hV9.mono EInt.mono hl84)
     (try replace hcur := hcur.trans hl84)
     have hT := hT.back hS (by first | exact Le.refl _ | assumption) (fun x hx => by try simp only [bkA, bkB, bkC, bkD, bkE] at hx; (rcases hx with rfl | rfl | rfl | rfl | rfl) <;> simp)
     refine ⟨fun _ _ => hT, ?_⟩
     refine al_at ?_ (ha.put (blt_lt rfl) _)
     refine al_two (i := 3) (j := 6) (by kernel_rfl) (fun a ha => ?_) (fun a ha => ?_)
     ·
      refine wpOp_of_opk (i := 3) rfl ha (op_call_fr hS cf_14 rfl (gc_Live_c _ _ hS.hold _ HK [] 9 (heap_ hCk hTk) _ [2] hI9 okK.slots.ok (by decide) (by decide))) ?_
      clear hS
      rintro v85 w ⟨F85, G85, hR85, hF85, hf85, hl85, hS⟩
      rw [liv] at hR85
      obtain ⟨oL, cL, rfl, _, _⟩ := hR85.elimN (n := 4) rfl
      have hL9 := hR85.mono EBool.mono hf85
      (try replace hCk := hCk.mono ECell.mono hl85)
      (try replace hTk := hTk.mono EInt.mono hl85)
      (try replace hI9 := hI9.mono EInt.mono hl85)
      (try replace hJ9 := hJ9.mono EInt.mono hl85)
      (try replace hV9 := hV9.mono EInt.mono hl85)
      (try replace hcur := hcur.trans hl85)
      have hT := hT.back hS (by first | exact Le.refl _ | assumption) (fun x hx => by try simp only [bkA, bkB, bkC, bkD, bkE] at hx; (rcases hx with rfl | rfl | rfl | rfl | rfl) <;> simp)
      refine ⟨fun _ _ => hT, ?_⟩
      refine al_at ?_ (ha.put (blt_lt rfl) _)
      refine al_step (i := 6) rfl (by kernel_rfl) rfl (op_buildSlice (el := 3) (is := [0]) (xs := [.tmp 87]) (sz := 1) (cs := [.int .i64 (2)]) hS rfl rfl (fun w => by kernel_rfl) rfl (by decide)) ?_
      clear hS
      rintro _ w ⟨s88, rfl, hS⟩
      obtain ⟨G88, hl88, hS88, hJ9⟩ := SS.give' ([2] : List Int) [] EInt.mono hS (by decide) ((Rows.ints (l := [2]) (by decide)).mono EInt.mono (fun b o hb => by cases hb)) rfl
      clear hS
      have hS := hS88
      clear hS88
      (try simp only [List.nil_append, List.cons_append] at hS)
      (try replace hCk := hCk.mono ECell.mono hl88)
      (try replace hTk := hTk.mono EInt.mono hl88)
      (try replace hI9 := hI9.mono EInt.mono hl88)
      (try replace hJ9 := hJ9.mono EInt.mono hl88)
      (try replace hL9 := hL9.mono EBool.mono hl88)
      (try replace hV9 := hV9.mono EInt.mono hl88)
      (try replace hcur := hcur.trans hl88)
      have hT := hT.back hS (by first | exact Le.refl _ | assumption) (fun x hx => by try simp only [bkA, bkB, bkC, bkD, bkE] at hx; (rcases hx with rfl | rfl | rfl | rfl | rfl) <;> simp)
      refine ⟨fun _ _ => hT, ?_⟩
      refine al_step (i := 7) rfl (by kernel_rfl) rfl (op_call_fr hS cf_21 rfl (gc_Moved_c _ _ hS.hold _ HK [] 9 (heap_ hCk hTk) okK.slots.ok (by decide) _ [2] hJ9 _ [] (RSl.nil _) (by decide) (by decide) (by decide))) ?_
      clear hS
      rintro v89 w ⟨F89, G89, hR89, hF89, hf89, hl89, hS⟩
      rw [mov] at hR89
      obtain ⟨oV, cV, rfl, _, _⟩ := hR89.elimN (n := 4) rfl
      have hV9 := hR89.mono EInt.mono hf89
      (try replace hCk := hCk.mono ECell.mono hl89)
      (try replace hTk := hTk.mono EInt.mono hl89)
      (try replace hI9 := hI9.mono EInt.mono hl89)
      (try replace hJ9 := hJ9.mono EInt.mono hl89)
      (try replace hL9 := hL9.mono EBool.mono hl89)
      (try replace hcur := hcur.trans hl89)
      have hT := hT.back hS (by first | exact Le.refl _ | assumption) (fun x hx => by try simp only [bkA, bkB, bkC, bkD, bkE] at hx; (rcases hx with rfl | rfl | rfl | rfl | rfl) <;> simp)
      refine ⟨fun _ _ => hT, ?_⟩
      refine al_take (i := 8) rfl (by kernel_rfl) (by kernel_rfl) (by kernel_rfl) rfl (fun _ _ _ h => h) (op_assign rfl) rfl (al_take (i := 9) rfl (by kernel_rfl) (by kernel_rfl) (by kernel_rfl) rfl (fun _ _ _ h => h) (op_assign rfl) rfl ?_)
      exact K9 _ _ _ _ (by kernel_rfl) (by exact ⟨_, oL, oV, cL, cV, rfl, hcur, hL9, hV9, hS⟩) ((Sub.cons rfl (Sub.cons rfl (Sub.cons rfl (Sub.cons rfl (Sub.cons rfl (Sub.cons rfl (Sub.cons rfl (Sub.cons rfl (Sub.cons rfl (Sub.cons rfl (Sub.cons rfl (Sub.cons rfl (Sub.cons rfl (Sub.cons rfl (Sub.cons rfl (Sub.cons rfl Sub.nil)))))))))))))))))
     ·
      refine wpOp_of_opk (i := 6) rfl ha (op_buildSlice (el := 3) (is := [0]) (xs := [.tmp 87]) (sz := 1) (cs := [.int .i64 (2)]) hS rfl rfl (fun w => by kernel_rfl) rfl (by decide)) ?_
      clear hS
      rintro _ w ⟨s88, rfl, hS⟩
      obtain ⟨G88, hl88, hS88, hJ9⟩ := SS.give' ([2] : List Int) [] EInt.mono hS (by decide) ((Rows.ints (l := [2]) (by decide)).mono EInt.mono (fun b o hb => by cases hb)) rfl
      clear hS
      have hS := hS88
      clear hS88
      (try simp only [List.nil_append, List.cons_append] at hS)
      (try replace hCk := hCk.mono ECell.mono hl88)
      (try replace hTk := hTk.mono EInt.mono hl88)
      (try replace hI9 := hI9.mono EInt.mono hl88)
      (try replace hJ9 := hJ9.mono EInt.mono hl88)
      (try replace hL9 := hL9.mono EBool.mono hl88)
      (try replace hV9 := hV9.mono EInt.mono hl88)
      (try replace hcur := hcur.trans hl88)
      have hT := hT.back hS (by first | exact Le.refl _ | assumption) (fun x hx => by try simp only [bkA, bkB, bkC, bkD, bkE] at hx; (rcases hx with rfl | rfl | rfl | rfl | rfl) <;> simp)
      refine ⟨fun _ _ => hT, ?_⟩
      refine al_at ?_ (ha.put (blt_lt rfl) _)
      refine al_step (i := 3) rfl (by kernel_rfl) rfl (op_call_fr hS cf_14 rfl (gc_Live_c _ _ hS.hold _ HK [] 9 (heap_ hCk hTk) _ [2] hI9 okK.slots.ok (by decide) (by decide))) ?_
      clear hS
      rintro v85 w ⟨F85, G85, hR85, hF85, hf85, hl85, hS⟩
      rw [liv] at hR85
      obtain ⟨oL, cL, rfl, _, _⟩ := hR85.elimN (n := 4) rfl
      have hL9 := hR85.mono EBool.mono hf85
      (try replace hCk := hCk.mono ECell.mono hl85)
      (try replace hTk := hTk.mono EInt.mono hl85)
      (try replace hI9 := hI9.mono EInt.mono hl85)
      (try replace hJ9 := hJ9.mono EInt.mono hl85)
      (try replace hV9 := hV9.mono EInt.mono hl85)
      (try replace hcur := hcur.trans hl85)
      have hT := hT.back hS (by first | exact Le.refl _ | assumption) (fun x hx => by try simp only [bkA, bkB, bkC, bkD, bkE] at hx; (rcases hx with rfl | rfl | rfl | rfl | rfl) <;> simp)
      refine ⟨fun _ _ => hT, ?_⟩
      refine al_step (i := 7) rfl (by kernel_rfl) rfl (op_call_fr hS cf_21 rfl (gc_Moved_c _ _ hS.hold _ HK [] 9 (heap_ hCk hTk) okK.slots.ok (by decide) _ [2] hJ9 _ [] (RSl.nil _) (by decide) (by decide) (by decide))) ?_
      clear hS
      rintro v89 w ⟨F89, G89, hR89, hF89, hf89, hl89, hS⟩
      rw [mov] at hR89
      obtain ⟨oV, cV, rfl, _, _⟩ := hR89.elimN (n := 4) rfl
      have hV9 := hR89.mono EInt.mono hf89
      (try replace hCk := hCk.mono ECell.mono hl89)
      (try replace hTk := hTk.mono EInt.mono hl89)
      (try replace hI9 := hI9.mono EInt.mono hl89)
      (try replace hJ9 := hJ9.mono EInt.mono hl89)
      (try replace hL9 := hL9.mono EBool.mono hl89)
      (try replace hcur := hcur.trans hl89)
      have hT := hT.back hS (by first | exact Le.refl _ | assumption) (fun x hx => by try simp only [bkA, bkB, bkC, bkD, bkE] at hx; (rcases hx with rfl | rfl | rfl | rfl | rfl) <;> simp)
      refine ⟨fun _ _ => hT, ?_⟩
      refine al_take (i := 8) rfl (by kernel_rfl) (by kernel_rfl) (by kernel_rfl) rfl (fun _ _ _ h => h) (op_assign rfl) rfl (al_take (i := 9) rfl (by kernel_rfl) (by kernel_rfl) (by kernel_rfl) rfl (fun _ _ _ h => h) (op_assign rfl) rfl ?_)
      exact K9 _ _ _ _ (by kernel_rfl) (by exact ⟨_, oL, oV, cL, cV, rfl, hcur, hL9, hV9, hS⟩) ((Sub.cons rfl (Sub.cons rfl (Sub.cons rfl (Sub.cons rfl (Sub.cons rfl (Sub.cons rfl (Sub.cons rfl (Sub.cons rfl (Sub.cons rfl (Sub.cons rfl (Sub.cons rfl (Sub.cons rfl (Sub.cons rfl (Sub.cons rfl (Sub.cons rfl (Sub.cons rfl Sub.nil)))))))))))))))))
    ·
     refine wpOp_of_opk (i := 6) rfl ha (op_buildSlice (el := 3) (is := [0]) (xs := [.tmp 87]) (sz := 1) (cs := [.int .i64 (2)]) hS rfl rfl (fun w => by kernel_rfl) rfl (by decide)) ?_
     clear hS
     rintro _ w ⟨s88, rfl, hS⟩
     obtain ⟨G88, hl88, hS88, hJ9⟩ := SS.give' ([2] : List Int) [] EInt.mono hS (by decide) ((Rows.ints (l := [2]) (by decide)).mono EInt.mono (fun b o hb => by cases hb)) rfl
     clear hS
     have hS := hS88
     clear hS88
     (try simp only [List.nil_append, List.cons_append] at hS)
     (try replace hCk := hCk.mono ECell.mono hl88)
     (try replace hTk := hTk.mono EInt.mono hl88)
     (try replace hI9 := hI9.mono EInt.mono hl88)
     (try replace hJ9 := hJ9.mono EInt.mono hl88)
     (try replace hL9 := hL9.mono EBool.mono hl88)
     (try replace hV9 := hV9.mono EInt.mono hl88)
     (try replace hcur := hcur.trans hl88)
     have hT := hT.back hS (by first | exact Le.refl _ | assumption) (fun x hx => by try simp only [bkA, bkB, bkC, bkD, bkE] at hx; (rcases hx with rfl | rfl | rfl | rfl | rfl) <;> simp)
     refine ⟨fun _ _ => hT, ?_⟩
     refine al_at ?_ (ha.put (blt_lt rfl) _)
     refine al_step (i := 2) rfl (by kernel_rfl) rfl (op_buildSlice (el := 3) (is := [0]) (xs := [.tmp 83]) (sz := 1) (cs := [.int .i64 (2)]) hS rfl rfl (fun w => by kernel_rfl) rfl (by decide)) ?_
     clear hS
     rintro _ w ⟨s84, rfl, hS⟩
     obtain ⟨G84, hl84, hS84, hI9⟩ := SS.give' ([2] : List Int) [] EInt.mono hS (by decide) ((Rows.ints (l := [2]) (by decide)).mono EInt.mono (fun b o hb => by cases hb)) rfl
     clear hS
     have hS := hS84
     clear hS84
     (try simp only [List.nil_append, List.cons_append] at hS)
     (try replace hCk := hCk.mono ECell.mono hl84)
     (try replace hTk := hTk.mono EInt.mono hl84)
     (try replace hI9 := hI9.mono EInt.mono hl84)
     (try replace hJ9 := hJ9.mono EInt.mono hl84)
     (try replace hL9 := hL9.mono EBool.mono hl84)
     (try replace hV9 := hV9.mono EInt.mono hl84)
     (try replace hcur := hcur.trans hl84)
     have hT := hT.back hS (by first | exact Le.refl _ | assumption) (fun x hx => by try simp only [bkA, bkB, bkC, bkD, bkE] at hx; (rcases hx with rfl | rfl | rfl | rfl | rfl) <;> simp)
     refine ⟨fun _ _ => hT, ?_⟩
     refine al_step (i := 3) rfl (by kernel_rfl) rfl (op_call_fr hS cf_14 rfl (gc_Live_c _ _ hS.hold _ HK [] 9 (heap_ hCk hTk) _ [2] hI9 okK.slots.ok (by decide) (by decide))) ?_
     clear hS
     rintro v85 w ⟨F85, G85, hR85, hF85, hf85, hl85, hS⟩
     rw [liv] at hR85
     obtain ⟨oL, cL, rfl, _, _⟩ := hR85.elimN (n := 4) rfl
     have hL9 := hR85.mono EBool.mono hf85
     (try replace hCk := hCk.mono ECell.mono hl85)
     (try replace hTk := hTk.mono EInt.mono hl85)
     (try replace hI9 := hI9.mono EInt.mono hl85)
     (try replace hJ9 := hJ9.mono EInt.mono hl85)
     (try replace hV9 := hV9.mono EInt.mono hl85)
     (try replace hcur := hcur.trans hl85)
     have hT := hT.back hS (by first | exact Le.refl _ | assumption) (fun x hx => by try simp only [bkA, bkB, bkC, bkD, bkE] at hx; (rcases hx with rfl | rfl | rfl | rfl | rfl) <;> simp)
     refine ⟨fun _ _ => hT, ?_⟩
     refine al_step (i := 7) rfl (by kernel_rfl) rfl (op_call_fr hS cf_21 rfl (gc_Moved_c _ _ hS.hold _ HK [] 9 (heap_ hCk hTk) okK.slots.ok (by decide) _ [2] hJ9 _ [] (RSl.nil _) (by decide) (by decide) (by decide))) ?_
     clear hS
     rintro v89 w ⟨F89, G89, hR89, hF89, hf89, hl89, hS⟩
     rw [mov] at hR89
     obtain ⟨oV, cV, rfl, _, _⟩ := hR89.elimN (n := 4) rfl
     have hV9 := hR89.mono EInt.mono hf89
     (try replace hCk := hCk.mono ECell.mono hl89)
     (try replace hTk := hTk.mono EInt.mono hl89)
     (try replace hI9 := hI9.mono EInt.mono hl89)
     (try replace hJ9 := hJ9.mono EInt.mono hl89)
     (try replace hL9 := hL9.mono EBool.mono hl89)
     (try replace hcur := hcur.trans hl89)
     have hT := hT.back hS (by first | exact Le.refl _ | assumption) (fun x hx => by try simp only [bkA, bkB, bkC, bkD, bkE] at hx; (rcases hx with rfl | rfl | rfl | rfl | rfl) <;> simp)
     refine ⟨fun _ _ => hT, ?_⟩
     refine al_take (i := 8) rfl (by kernel_rfl) (by kernel_rfl) (by kernel_rfl) rfl (fun _ _ _ h => h) (op_assign rfl) rfl (al_take (i := 9) rfl (by kernel_rfl) (by kernel_rfl) (by kernel_rfl) rfl (fun _ _ _ h => h) (op_assign rfl) rfl ?_)
     exact K9 _ _ _ _ (by kernel_rfl) (by exact ⟨_, oL, oV, cL, cV, rfl, hcur, hL9, hV9, hS⟩) ((Sub.cons rfl (Sub.cons rfl (Sub.cons rfl (Sub.cons rfl (Sub.cons rfl (Sub.cons rfl (Sub.cons rfl (Sub.cons rfl (Sub.cons rfl (Sub.cons rfl (Sub.cons rfl (Sub.cons rfl (Sub.cons rfl (Sub.cons rfl (Sub.cons rfl (Sub.cons rfl Sub.nil)))))))))))))))))
   ·
    have hTo := hT
    clear hS hT
    rintro e w ⟨G89, oL, oV, cL, cV, rfl, hcur2, hL9, hV9, hS⟩
    have hT := hTo.back hS (by first | exact Le.refl _ | assumption) (fun x hx => by try simp only [bkA, bkB, bkC, bkD, bkE] at hx; (rcases hx with rfl | rfl | rfl | rfl | rfl) <;> simp)
    clear hTo
    clear hcur
    have hcur := hcur2
    clear hcur2
    replace hCm := hCm.mono ECell.mono hcur
    replace hTm := hTm.mono EInt.mono hcur
    replace hCc := hCc.mono ECell.mono hcur
    replace hTc := hTc.mono EInt.mono hcur
    replace hRc := hRc.mono EInt.mono hcur
    replace hCe := hCe.mono ECell.mono hcur
    replace hTe := hTe.mono EInt.mono hcur
    replace hRe := hRe.mono EInt.mono hcur
    replace hMe := hMe.mono EMk.mono hcur
    replace hCk := hCk.mono ECell.mono hcur
    replace hTk := hTk.mono EInt.mono hcur
    refine al_done (by kernel_rfl) (pq_then (cw_seq (cw_seq (cw_region (ol_pure rfl (op_move rfl) (ol_pure rfl (op_len sl_34 rfl rfl) (ol_pure rfl (op_neqF rfl rfl rfl) ?_)))))))
    refine ol_pure rfl (op_move rfl) (ol_guard_pure rfl rfl rfl (op_move rfl) (ol_guard_pure rfl rfl rfl (op_len sl_29 rfl rfl) (ol_guard_pure rfl rfl rfl (op_neqF rfl rfl rfl) (ol_pure rfl (op_pick_f rfl rfl) (ol_nil (pq_then (cw_cond_f rfl ?_)))))))
    refine cw_skip (pq_then (cw_seq (cw_region (ol_load rfl (op_loadN agg_28 rfl (by rfl) (fun w hw k u hk => (hw.bcell (i := 2) rfl).trans hk)) hS (ol_pure rfl (op_build (is := [0, 1, 2]) (xs := [.const (.int .i64 (4)), .const (_), .const (.int .i64 (1))]) (v := .agg #[.int .i64 4, .string ⟨#[103]⟩, .int .i64 1]) rfl rfl (fun w => by kernel_rfl)) (ol_pure rfl (op_build (is := [0, 2]) (xs := [.const (.int .i64 (1)), .const (.int .i64 (1))]) (v := .agg #[.int .i64 1, .string ByteArray.empty, .int .i64 1]) rfl rfl (fun w => by kernel_rfl)) ?_))))))
    refine ol_step rfl (op_buildSlice (el := 49) (is := [0, 1]) (xs := [.tmp 99, .tmp 100]) (sz := 3) (cs := [.int .i64 4, .string ⟨#[103]⟩, .int .i64 1, .int .i64 1, .string ByteArray.empty, .int .i64 1]) hS rfl rfl (fun w => by kernel_rfl) rfl (by decide)) ?_
    clear hS
    rintro _ w ⟨s101, rfl, hS⟩
    obtain ⟨G101, hl101, hS101, hX12⟩ := SS.give' (HC : List Cell) [] ECell.mono hS (by decide) (by exact Rows.cells (bdAll (.inr (.inr rfl)))) rfl
    clear hS
    have hS := hS101
    clear hS101
    (try simp only [List.nil_append, List.cons_append] at hS)
    (try replace hCm := hCm.mono ECell.mono hl101)
    (try replace hTm := hTm.mono EInt.mono hl101)
    (try replace hCc := hCc.mono ECell.mono hl101)
    (try replace hTc := hTc.mono EInt.mono hl101)
    (try replace hRc := hRc.mono EInt.mono hl101)
    (try replace hCe := hCe.mono ECell.mono hl101)
    (try replace hTe := hTe.mono EInt.mono hl101)
    (try replace hRe := hRe.mono EInt.mono hl101)
    (try replace hMe := hMe.mono EMk.mono hl101)
    (try replace hL9 := hL9.mono EBool.mono hl101)
    (try replace hV9 := hV9.mono EInt.mono hl101)
    (try replace hcur := hcur.trans hl101)
    refine ol_pure rfl (op_build (is := [0, 2]) (xs := [.tmp 101, .const (.int .i64 (9))]) (v := .agg #[.slice s101 2 2, .slice none 0 0, .int .i64 9]) rfl rfl (fun w => by kernel_rfl)) ?_
    refine ol_step rfl (op_call_sc hS cf_18 rfl (R08_Same_c _ _ hS.hold _ _ HC HC [] [] 9 9 (heap_ hCc hTc) (heap_ hX12 (RSl.nil _)) rfl rfl rfl)) ?_
    clear hS
    rintro _ w ⟨rfl, hS⟩
    refine ol_pure rfl (op_move rfl) (ol_guard_pure rfl rfl rfl (op_move rfl) ?_)
    refine ol_guard_step rfl rfl rfl (op_buildSlice (el := 3) (is := [0, 1, 2]) (xs := [.const (.int .i64 (0)), .const (.int .i64 (-1)), .const (.int .i64 (-1))]) (sz := 1) (cs := [.int .i64 (0), .int .i64 (-1), .int .i64 (-1)]) hS rfl rfl (fun w => by kernel_rfl) rfl (by decide)) ?_
    clear hS
    rintro _ w ⟨s106, rfl, hS⟩
    obtain ⟨G106, hl106, hS106, hY12⟩ := SS.give' ([0, -1, -1] : List Int) [] EInt.mono hS (by decide) ((Rows.ints (l := [0, -1, -1]) (by decide)).mono EInt.mono (fun b o hb => by cases hb)) rfl
    clear hS
    have hS := hS106
    clear hS106
    (try simp only [List.nil_append, List.cons_append] at hS)
    (try replace hCm := hCm.mono ECell.mono hl106)
    (try replace hTm := hTm.mono EInt.mono hl106)
    (try replace hRc := hRc.mono EInt.mono hl106)
    (try replace hCe := hCe.mono ECell.mono hl106)
    (try replace hTe := hTe.mono EInt.mono hl106)
    (try replace hRe := hRe.mono EInt.mono hl106)
    (try replace hMe := hMe.mono EMk.mono hl106)
    (try replace hL9 := hL9.mono EBool.mono hl106)
    (try replace hV9 := hV9.mono EInt.mono hl106)
    (try replace hcur := hcur.trans hl106)
    refine ol_guard_step rfl rfl rfl (op_call_sc hS cf_19 rfl (ints_t hS.hold hRc hY12)) ?_
    clear hS
    rintro _ w ⟨rfl, hS⟩
    refine ol_pure rfl (op_pick_t rfl rfl) (ol_pure rfl (op_move rfl) (ol_guard_pure rfl rfl rfl (op_move rfl) (ol_guard_pure rfl rfl rfl (op_len sl_29 rfl rfl) (ol_guard_pure rfl rfl rfl (op_eqlT rfl rfl rfl) (ol_pure rfl (op_pick_t rfl rfl) (ol_pure rfl (op_move rfl) (ol_guard_pure rfl rfl rfl (op_fieldAddr fld_28_0 rfl) ?_)))))))
    refine ol_guard_load rfl rfl rfl (op_load1 one_25 rfl (fun w hw => (hw.bcell (i := 1) rfl).trans rfl)) hS (ol_guard_pure rfl rfl rfl (op_len sl_25 rfl rfl) (ol_guard_pure rfl rfl rfl (op_eqlT rfl rfl rfl) (ol_pure rfl (op_pick_t rfl rfl) (ol_pure rfl (op_move rfl) (ol_guard_pure rfl rfl rfl (op_fieldAddr fld_28_2 rfl) (ol_guard_load rfl rfl rfl (op_load1 one_3 rfl (fun w hw => (hw.bcell (i := 1) rfl).trans rfl)) hS (ol_guard_pure rfl rfl rfl (op_eqlT rfl rfl rfl) ?_)))))))
    refine ol_pure rfl (op_pick_t rfl rfl) (ol_pure rfl (op_move rfl) (ol_guard_pure rfl rfl rfl (op_move rfl) (ol_guard_pure rfl rfl rfl (op_len sl_26 rfl rfl) (ol_guard_pure rfl rfl rfl (op_eqlT rfl rfl rfl) (ol_pure rfl (op_pick_t rfl rfl) (ol_pure rfl (op_move rfl) (ol_guard_pure rfl rfl rfl (op_move rfl) ?_)))))))
    refine ol_pure rfl (op_pick_t rfl rfl) (ol_pure rfl (op_move rfl) (ol_guard_load rfl rfl rfl (op_loadN agg_28 rfl (by rfl) (fun w hw k u hk => (hw.bcell (i := 0) rfl).trans hk)) hS (ol_guard_load rfl rfl rfl (op_loadN agg_28 rfl (by rfl) (fun w hw k u hk => (hw.bcell (i := 3) rfl).trans hk)) hS ?_)))
    refine ol_guard_step rfl rfl rfl (op_call_sc hS cf_18 rfl (R08_Same_c _ _ hS.hold _ _ HM HM [3] [3] 9 9 (heap_ hCe hTe) (heap_ hCm hTm) rfl rfl rfl)) ?_
    clear hS
    rintro _ w ⟨rfl, hS⟩
    refine ol_pure rfl (op_pick_t rfl rfl) (ol_pure rfl (op_move rfl) (ol_guard_pure rfl rfl rfl (op_move rfl) ?_))
    refine ol_guard_step rfl rfl rfl (op_buildSlice (el := 3) (is := [0]) (xs := [.const (.int .i64 (2))]) (sz := 1) (cs := [.int .i64 (2)]) hS rfl rfl (fun w => by kernel_rfl) rfl (by decide)) ?_
    clear hS
    rintro _ w ⟨s140, rfl, hS⟩
    obtain ⟨G140, hl140, hS140, hZ12⟩ := SS.give' ([2] : List Int) [] EInt.mono hS (by decide) ((Rows.ints (l := [2]) (by decide)).mono EInt.mono (fun b o hb => by cases hb)) rfl
    clear hS
    have hS := hS140
    clear hS140
    (try simp only [List.nil_append, List.cons_append] at hS)
    (try replace hRe := hRe.mono EInt.mono hl140)
    (try replace hMe := hMe.mono EMk.mono hl140)
    (try replace hL9 := hL9.mono EBool.mono hl140)
    (try replace hV9 := hV9.mono EInt.mono hl140)
    (try replace hcur := hcur.trans hl140)
    refine ol_guard_step rfl rfl rfl (op_call_sc hS cf_19 rfl (ints_t hS.hold hRe hZ12)) ?_
    clear hS
    rintro _ w ⟨rfl, hS⟩
    refine ol_pure rfl (op_pick_t rfl rfl) (ol_pure rfl (op_move rfl) ?_)
    obtain ⟨hoM, o9, d9, hr9, _, hc9⟩ := hMe.mkAt (i := 0) (by decide)
    refine ol_guard_pure rfl rfl rfl (op_move rfl) (ol_guard_pure rfl rfl rfl (op_indexN (i := 0) sl_29 rfl rfl (by decide) hoM) (ol_guard_pure rfl rfl rfl (op_fieldAddr fld_46_0 rfl) (ol_guard_load rfl rfl rfl (op_load1 one_3 rfl (fun w hw => hw.gcell (hc9 0 _ rfl))) hS (ol_guard_pure rfl rfl rfl (op_eqlT rfl rfl rfl) (ol_pure rfl (op_pick_t rfl rfl) (ol_pure rfl (op_move rfl) ?_))))))
    obtain ⟨hoM, o9, d9, hr9, _, hc9⟩ := hMe.mkAt (i := 0) (by decide)
    refine ol_guard_pure rfl rfl rfl (op_move rfl) (ol_guard_pure rfl rfl rfl (op_indexN (i := 0) sl_29 rfl rfl (by decide) hoM) (ol_guard_pure rfl rfl rfl (op_fieldAddr fld_46_1 rfl) (ol_guard_load rfl rfl rfl (op_load1 one_3 rfl (fun w hw => hw.gcell (hc9 1 _ rfl))) hS (ol_guard_pure rfl rfl rfl (op_eqlT rfl rfl rfl) (ol_pure rfl (op_pick_t rfl rfl) (ol_pure rfl (op_move rfl) ?_))))))
    obtain ⟨hoM, o9, d9, hr9, _, hc9⟩ := hMe.mkAt (i := 0) (by decide)
    refine ol_guard_pure rfl rfl rfl (op_move rfl) (ol_guard_pure rfl rfl rfl (op_indexN (i := 0) sl_29 rfl rfl (by decide) hoM) (ol_guard_pure rfl rfl rfl (op_fieldAddr fld_46_2 rfl) (ol_guard_load rfl rfl rfl (op_load1 one_26 rfl (fun w hw => hw.gcell (hc9 2 _ rfl))) hS ?_)))
    refine ol_guard_step rfl rfl rfl (op_buildSlice (el := 3) (is := [0]) (xs := [.const (.int .i64 (2))]) (sz := 1) (cs := [.int .i64 (2)]) hS rfl rfl (fun w => by kernel_rfl) rfl (by decide)) ?_
    clear hS
    rintro _ w ⟨s162, rfl, hS⟩
    obtain ⟨G162, hl162, hS162, hW12⟩ := SS.give' ([2] : List Int) [] EInt.mono hS (by decide) ((Rows.ints (l := [2]) (by decide)).mono EInt.mono (fun b o hb => by cases hb)) rfl
    clear hS
    have hS := hS162
    clear hS162
    (try simp only [List.nil_append, List.cons_append] at hS)
    (try replace hL9 := hL9.mono EBool.mono hl162)
    (try replace hV9 := hV9.mono EInt.mono hl162)
    (try replace hcur := hcur.trans hl162)
    replace hr9 := hr9.mono EInt.mono hl162
    refine ol_guard_step rfl rfl rfl (op_call_sc hS cf_19 rfl (ints_t hS.hold hr9 hW12)) ?_
    clear hS
    rintro _ w ⟨rfl, hS⟩
    refine ol_pure rfl (op_pick_t rfl rfl) (ol_pure rfl (op_move rfl) ?_)
    obtain ⟨hoL0, hcL0⟩ := hL9.bool (i := 0) (by decide)
    refine ol_guard_pure rfl rfl rfl (op_move rfl) (ol_guard_pure rfl rfl rfl (op_indexN (i := 0) sl_34 rfl rfl (by decide) hoL0) (ol_guard_load rfl rfl rfl (op_load1 one_4 rfl (fun w hw => hw.gcell hcL0)) hS (ol_guard_pure rfl rfl rfl (op_not rfl) (ol_pure rfl (op_pick_t rfl rfl) (ol_pure rfl (op_move rfl) ?_)))))
    obtain ⟨hoL1, hcL1⟩ := hL9.bool (i := 1) (by decide)
    refine ol_guard_pure rfl rfl rfl (op_move rfl) (ol_guard_pure rfl rfl rfl (op_indexN (i := 1) sl_34 rfl rfl (by decide) hoL1) (ol_guard_load rfl rfl rfl (op_load1 one_4 rfl (fun w hw => hw.gcell hcL1)) hS (ol_guard_pure rfl rfl rfl (op_not rfl) (ol_pure rfl (op_pick_t rfl rfl) (ol_pure rfl (op_move rfl) ?_)))))
    obtain ⟨hoL2, hcL2⟩ := hL9.bool (i := 2) (by decide)
    refine ol_guard_pure rfl rfl rfl (op_move rfl) (ol_guard_pure rfl rfl rfl (op_indexN (i := 2) sl_34 rfl rfl (by decide) hoL2) (ol_guard_load rfl rfl rfl (op_load1 one_4 rfl (fun w hw => hw.gcell hcL2)) hS (ol_pure rfl (op_pick_t rfl rfl) (ol_pure rfl (op_move rfl) ?_))))
    obtain ⟨hoL3, hcL3⟩ := hL9.bool (i := 3) (by decide)
    refine ol_guard_pure rfl rfl rfl (op_move rfl) (ol_guard_pure rfl rfl rfl (op_indexN (i := 3) sl_34 rfl rfl (by decide) hoL3) (ol_guard_load rfl rfl rfl (op_load1 one_4 rfl (fun w hw => hw.gcell hcL3)) hS (ol_pure rfl (op_pick_t rfl rfl) (ol_pure rfl (op_move rfl) (ol_guard_pure rfl rfl rfl (op_move rfl) ?_)))))
    refine ol_guard_step rfl rfl rfl (op_buildSlice (el := 3) (is := [0, 1, 2, 3]) (xs := [.const (.int .i64 (-1)), .const (.int .i64 (-1)), .const (.int .i64 (0)), .const (.int .i64 (1))]) (sz := 1) (cs := [.int .i64 (-1), .int .i64 (-1), .int .i64 (0), .int .i64 (1)]) hS rfl rfl (fun w => by kernel_rfl) rfl (by decide)) ?_
    clear hS
    rintro _ w ⟨s189, rfl, hS⟩
    obtain ⟨G189, hl189, hS189, hQ12⟩ := SS.give' ([-1, -1, 0, 1] : List Int) [] EInt.mono hS (by decide) ((Rows.ints (l := [-1, -1, 0, 1]) (by decide)).mono EInt.mono (fun b o hb => by cases hb)) rfl
    clear hS
    have hS := hS189
    clear hS189
    (try simp only [List.nil_append, List.cons_append] at hS)
    (try replace hV9 := hV9.mono EInt.mono hl189)
    (try replace hcur := hcur.trans hl189)
    refine ol_guard_step rfl rfl rfl (op_call_sc hS cf_19 rfl (ints_t hS.hold hV9 hQ12)) ?_
    clear hS
    rintro _ w ⟨rfl, hS⟩
    refine ol_pure rfl (op_pick_t rfl rfl) (ol_pure rfl (op_assign rfl) (ol_nil (pq_then (cw_ret (ret1 rfl rfl ?_)))))
    exact hS.sc_b rfl
end Go.Proofs.Ytnmkffkalnkbbaa.K
