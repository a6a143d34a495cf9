/-
  Regions that draw their order: more than one may come up first; orders that meet again.
  It speaks of any program. No condition.
-/
import Derived.Test.YtnmkffkalnkbbaaKit
namespace Go.Proofs.Ytnmkffkalnkbbaa.K
open Go Go.RowKit
section
variable {P : Program} {N : Nat} {e : Env} {w : World} {Q : Post} {ops : Array Oper} {S : World → Prop}
/-- All orders come to one state; from there on it goes once. -/
theorem al_meet {fuel fuel2 : Nat} {ds ds2 : List Nat} (F : Env → World → Prop) (h1 : (∀ ds3 e' w' E, lst ops.size ds3 = lst ops.size ds2 → F E w' → Sub E e' → AL P N ops Q S fuel2 ds3 e' w') → AL P N ops Q S fuel ds e w) (h2 : ∀ E w', F E w' → AL P N ops Q S fuel2 ds2 E w') : AL P N ops Q S fuel ds e w :=
  h1 fun ds3 e' w' E hd hF hs a ha => by
    rw [hd]
    exact h2 E w' hF a (ha.sub hs)
theorem al_three {i j k fuel : Nat} {ds : List Nat} (hr : Region.ready .any ops (lst ops.size ds) = [i, j, k])
    (h1 : ∀ a, Kn N e a → wpOp P ops Q i (fun a' w' => (need ops i = true → S w → S w') ∧ wpT P ops Q S fuel (lst ops.size (i :: ds)) a' w') a w)
    (h2 : ∀ a, Kn N e a → wpOp P ops Q j (fun a' w' => (need ops j = true → S w → S w') ∧ wpT P ops Q S fuel (lst ops.size (j :: ds)) a' w') a w)
    (h3 : ∀ a, Kn N e a → wpOp P ops Q k (fun a' w' => (need ops k = true → S w → S w') ∧ wpT P ops Q S fuel (lst ops.size (k :: ds)) a' w') a w) : AL P N ops Q S (fuel + 1) ds e w := fun a ha =>
  ⟨fun h0 => (by rw [hr] at h0; cases h0), fun l hl => (by
    rw [hr] at hl
    have : l = i ∨ l = j ∨ l = k := by simpa using hl
    rcases this with rfl | rfl | rfl
    · exact h1 a ha
    · exact h2 a ha
    · exact h3 a ha)⟩
end
end Go.Proofs.Ytnmkffkalnkbbaa.K
