/-
  What is so behind any collection, as the laws of layer 9 ask for it.
  No condition but the premises that each theorem names.
-/
import Derived.Test.YtnmkffkalnkbbaaLHhead
import Derived.Test.YtnmkffkalnkbbaaGc5
import Derived.Test.YtnmkffkalnkbbaaPhm
namespace Go.Proofs.Ytnmkffkalnkbbaa.K
open Go Go.RowKit
set_option linter.unusedVariables false
set_option linter.unusedSimpArgs false

open Pl
theorem col_ok {cs : List Cell} {tr roots to : List Int} {ms : List Mk} (htc : to = toC cs (allI roots ms)) (hok : HpOk cs tr) : HpOk (cellsM to cs) (trailM to tr) ∧ (cellsM to cs).length ≤ cs.length := by
  subst htc
  exact ⟨hp_col hok _, len_col_le⟩
theorem lv_of {cs : List Cell} {all : List Int} (hs : ShOk cs) {x : Int} (hx : x ∈ all) (hr : x = -1 ∨ (0 ≤ x ∧ x < cs.length)) : x = -1 ∨ ∃ p : Nat, x = p ∧ Lv cs all p := by
  rcases hr with h | h
  · exact .inl h
  · obtain ⟨p, rfl⟩ := Int.eq_ofNat_of_zero_le h.1
    exact .inr ⟨p, rfl, Lv.root hs (by omega) hx⟩
theorem same_al {cs : List Cell} {tr roots to : List Int} {ms : List Mk} (htc : to = toC cs (allI roots ms)) (hok : HpOk cs tr) (hn : cs.length ≤ 1000) {rs : List Int} (hsub : ∀ x ∈ rs, x ∈ allI roots ms) (hrg : ∀ x ∈ rs, x = -1 ∨ (0 ≤ x ∧ x < cs.length)) : AlikeP cs rs (cellsM to cs) (toI to rs) to := by
  have h2 := (col_ok htc hok).1
  subst htc
  exact Rn.alike (rn_col hok.slots.ok _) hok.slots hok.rank h2.slots h2.rank hn len_col_le fun x hx => lv_of hok.slots.ok (hsub x hx) (hrg x hx)
theorem again_x {cs : List Cell} {tr roots to : List Int} {ms : List Mk} (htc : to = toC cs (allI roots ms)) (hok : HpOk cs tr) :
    cellsM (movedI (liveB (cellsM to cs) (allI (toI to roots) (ms.map (markM to tr))))) (cellsM to cs) = cellsM to cs ∧ trailM (movedI (liveB (cellsM to cs) (allI (toI to roots) (ms.map (markM to tr))))) (trailM to tr) = trailM to tr ∧
    toI (movedI (liveB (cellsM to cs) (allI (toI to roots) (ms.map (markM to tr))))) (toI to roots) = toI to roots ∧ (ms.map (markM to tr)).map (markM (movedI (liveB (cellsM to cs) (allI (toI to roots) (ms.map (markM to tr))))) (trailM to tr)) = ms.map (markM to tr) := by
  have h2 := (col_ok htc hok).1
  subst htc
  have hl := live_again hok roots ms
  refine ⟨col_id h2.slots.ok hl, trail_id hl h2.range, to_id hl (fun x hx => toI_vals hx), ?_⟩
  rw [List.map_map]
  refine List.map_congr_left fun m hm => ?_
  exact mark_id hl h2.range (mark_ok _ m) (fun x hx => toI_vals hx)
theorem RSl.mkM {G : GH} {oa : Option Addr} {n c : Nat} {ms : List Mk} {to tr : List Int} (h : RSl 3 EMk G (.slice oa n c) (ms.map (markM to tr))) {i : Nat} (hi : i < ms.length) :
    oa.isSome = true ∧ ∃ om dm, RSl 1 EInt G (.slice om (toI to ms[i].roots).length dm) (toI to ms[i].roots) ∧
      ∀ (k : Nat) (u : Value), [Value.int .i64 (markM to tr ms[i]).cells, .int .i64 (markM to tr ms[i]).trail, .slice om (toI to ms[i].roots).length dm][k]? = some u → gcell G ((elA oa (i * 3)).add k) = some u := by
  have hi' : i < (ms.map (markM to tr)).length := by simpa using hi
  obtain ⟨h1, om, dm, h2, _, h3⟩ := h.mkAt hi'
  simp only [List.getElem_map] at h2 h3
  exact ⟨h1, om, dm, h2, h3⟩
theorem mkM_bd {ms : List Mk} {to tr : List Int} {cs : List Cell} {i : Nat} (hi : i < ms.length) {roots : List Int} (htc : to = toC cs (allI roots ms)) : (0 ≤ (markM to tr ms[i]).cells ∧ (markM to tr ms[i]).cells ≤ (cellsM to cs).length) ∧ 0 ≤ (markM to tr ms[i]).trail ∧ (markM to tr ms[i]).trail ≤ (trailM to tr).length := by
  subst htc
  exact mark_ok _ _

end Go.Proofs.Ytnmkffkalnkbbaa.K
