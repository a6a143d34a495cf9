/-
  No cell of these rows narrows 'for every input' (looked for: loops, veiled, ifaces, maps, wideKeys, modest, calm, conditions, laid).
  DERIVED. THE GIVEN ROWS OF THIS SEAT. 8 by the template 'for every input the law returns true; each argument reads behind the call as it read before'; 0 by the template 'total and deterministic' (their statements: YtnmkffkalnkbbaaTotals.lean).
  GIVEN WITH THE SEED: the statements are not yours to turn. If you find one false, say at which input.
  Laid BY PROGRAM, IN A SANDBOX (cutbox-rows.mjs): the forced cells as the released guide's own fill.sh prints them over the translation f79fcb2656984ae2… (all of the seat's roots in one cut). By AI agents, Wed Nov 11 2026. No macro, syntax, notation, axiom, sorry.
-/
import Derived.Test.YtnmkffkalnkbbaaChecked
import GoSem.Claim
import GoSem.ClaimJoined
import GoSem.ClaimMapViews
import Derived.JoinedTies
import Derived.KernelRfl
namespace Go.Proofs.Ytnmkffkalnkbbaa
/- THE CELL 'sum', in the pinned program and in every row, IS THE sha256 OF THE DUMP (.gsa) THAT YtnmkffkalnkbbaaProg.lean LOADS. Nothing in Lean hashes anything: it is a label: what it is worth is what the hold of that sum in a sandbox is worth. -/
noncomputable def Try.pinned : Pinned := { name := "ytnmkffkalnkbbaa", sum := "f79fcb2656984ae21450763c40b56d1f8eee1849eeb326519d6f0bb6ea385fcb", checked := Try.checked }
namespace Rows
def none {H : Type} : Left H := { results := [], args := [] }

/-- 'sorrellaw09.GcTells': WHATEVER THE INPUT: true; the input reads as it did. -/
def gcTellsSpec : ChangeSpec := { name := "gcTells", fn := fun _ => fun
  | [d1, d2] => { results := [.lit (.bool true)], args := [d1, d2] }
  | _ => none }
def gcTellsRow : OpenClaim := { program := "ytnmkffkalnkbbaa", sum := "f79fcb2656984ae21450763c40b56d1f8eee1849eeb326519d6f0bb6ea385fcb", func := "sorrel/sorrellaw09.GcTells", spec := "gcTells", unfollowed := true, recurses := true, apart := false }
def GcTellsSaid : Prop := gcTellsRow.holds Try.pinned (OpenSpec.ofChange gcTellsSpec)

/-- ITS FALSE NEIGHBOUR: 'it returns false'. Refute it at one input. -/
def gcTellsWrong : ChangeSpec := { name := "gcTells", fn := fun _ => fun
  | [d1, d2] => { results := [.lit (.bool false)], args := [d1, d2] }
  | _ => none }
def GcTellsWrongFalsely : Prop := gcTellsRow.holds Try.pinned (OpenSpec.ofChange gcTellsWrong)

/-- 'sorrellaw09.GcSame': WHATEVER THE INPUT: true; the input reads as it did. -/
def gcSameSpec : ChangeSpec := { name := "gcSame", fn := fun _ => fun
  | [d1, d2] => { results := [.lit (.bool true)], args := [d1, d2] }
  | _ => none }
def gcSameRow : OpenClaim := { program := "ytnmkffkalnkbbaa", sum := "f79fcb2656984ae21450763c40b56d1f8eee1849eeb326519d6f0bb6ea385fcb", func := "sorrel/sorrellaw09.GcSame", spec := "gcSame", unfollowed := true, recurses := true, apart := false }
def GcSameSaid : Prop := gcSameRow.holds Try.pinned (OpenSpec.ofChange gcSameSpec)

/-- ITS FALSE NEIGHBOUR: 'it returns false'. Refute it at one input. -/
def gcSameWrong : ChangeSpec := { name := "gcSame", fn := fun _ => fun
  | [d1, d2] => { results := [.lit (.bool false)], args := [d1, d2] }
  | _ => none }
def GcSameWrongFalsely : Prop := gcSameRow.holds Try.pinned (OpenSpec.ofChange gcSameWrong)

/-- 'sorrellaw09.GcUndo': WHATEVER THE INPUT: true; the input reads as it did. -/
def gcUndoSpec : ChangeSpec := { name := "gcUndo", fn := fun _ => fun
  | [d1, d2] => { results := [.lit (.bool true)], args := [d1, d2] }
  | _ => none }
def gcUndoRow : OpenClaim := { program := "ytnmkffkalnkbbaa", sum := "f79fcb2656984ae21450763c40b56d1f8eee1849eeb326519d6f0bb6ea385fcb", func := "sorrel/sorrellaw09.GcUndo", spec := "gcUndo", unfollowed := true, recurses := true, apart := false }
def GcUndoSaid : Prop := gcUndoRow.holds Try.pinned (OpenSpec.ofChange gcUndoSpec)

/-- ITS FALSE NEIGHBOUR: 'it returns false'. Refute it at one input. -/
def gcUndoWrong : ChangeSpec := { name := "gcUndo", fn := fun _ => fun
  | [d1, d2] => { results := [.lit (.bool false)], args := [d1, d2] }
  | _ => none }
def GcUndoWrongFalsely : Prop := gcUndoRow.holds Try.pinned (OpenSpec.ofChange gcUndoWrong)

/-- 'sorrellaw09.GcSlides': WHATEVER THE INPUT: true; the input reads as it did. -/
def gcSlidesSpec : ChangeSpec := { name := "gcSlides", fn := fun _ => fun
  | [d1, d2] => { results := [.lit (.bool true)], args := [d1, d2] }
  | _ => none }
def gcSlidesRow : OpenClaim := { program := "ytnmkffkalnkbbaa", sum := "f79fcb2656984ae21450763c40b56d1f8eee1849eeb326519d6f0bb6ea385fcb", func := "sorrel/sorrellaw09.GcSlides", spec := "gcSlides", unfollowed := true, recurses := true, apart := false }
def GcSlidesSaid : Prop := gcSlidesRow.holds Try.pinned (OpenSpec.ofChange gcSlidesSpec)

/-- ITS FALSE NEIGHBOUR: 'it returns false'. Refute it at one input. -/
def gcSlidesWrong : ChangeSpec := { name := "gcSlides", fn := fun _ => fun
  | [d1, d2] => { results := [.lit (.bool false)], args := [d1, d2] }
  | _ => none }
def GcSlidesWrongFalsely : Prop := gcSlidesRow.holds Try.pinned (OpenSpec.ofChange gcSlidesWrong)

/-- 'sorrellaw09.GcAgain': WHATEVER THE INPUT: true; the input reads as it did. -/
def gcAgainSpec : ChangeSpec := { name := "gcAgain", fn := fun _ => fun
  | [d1, d2] => { results := [.lit (.bool true)], args := [d1, d2] }
  | _ => none }
def gcAgainRow : OpenClaim := { program := "ytnmkffkalnkbbaa", sum := "f79fcb2656984ae21450763c40b56d1f8eee1849eeb326519d6f0bb6ea385fcb", func := "sorrel/sorrellaw09.GcAgain", spec := "gcAgain", unfollowed := true, recurses := true, apart := false }
def GcAgainSaid : Prop := gcAgainRow.holds Try.pinned (OpenSpec.ofChange gcAgainSpec)

/-- ITS FALSE NEIGHBOUR: 'it returns false'. Refute it at one input. -/
def gcAgainWrong : ChangeSpec := { name := "gcAgain", fn := fun _ => fun
  | [d1, d2] => { results := [.lit (.bool false)], args := [d1, d2] }
  | _ => none }
def GcAgainWrongFalsely : Prop := gcAgainRow.holds Try.pinned (OpenSpec.ofChange gcAgainWrong)

/-- 'sorrellaw09.GcOn': WHATEVER THE INPUT: true; the input reads as it did. -/
def gcOnSpec : ChangeSpec := { name := "gcOn", fn := fun _ => fun
  | [d1, d2, d3] => { results := [.lit (.bool true)], args := [d1, d2, d3] }
  | _ => none }
def gcOnRow : OpenClaim := { program := "ytnmkffkalnkbbaa", sum := "f79fcb2656984ae21450763c40b56d1f8eee1849eeb326519d6f0bb6ea385fcb", func := "sorrel/sorrellaw09.GcOn", spec := "gcOn", unfollowed := true, recurses := true, apart := false }
def GcOnSaid : Prop := gcOnRow.holds Try.pinned (OpenSpec.ofChange gcOnSpec)

/-- ITS FALSE NEIGHBOUR: 'it returns false'. Refute it at one input. -/
def gcOnWrong : ChangeSpec := { name := "gcOn", fn := fun _ => fun
  | [d1, d2, d3] => { results := [.lit (.bool false)], args := [d1, d2, d3] }
  | _ => none }
def GcOnWrongFalsely : Prop := gcOnRow.holds Try.pinned (OpenSpec.ofChange gcOnWrong)

/-- 'sorrellaw09.GcTrail': WHATEVER THE INPUT: true; the input reads as it did. -/
def gcTrailSpec : ChangeSpec := { name := "gcTrail", fn := fun _ => fun
  | [d1, d2] => { results := [.lit (.bool true)], args := [d1, d2] }
  | _ => none }
def gcTrailRow : OpenClaim := { program := "ytnmkffkalnkbbaa", sum := "f79fcb2656984ae21450763c40b56d1f8eee1849eeb326519d6f0bb6ea385fcb", func := "sorrel/sorrellaw09.GcTrail", spec := "gcTrail", unfollowed := true, recurses := true, apart := false }
def GcTrailSaid : Prop := gcTrailRow.holds Try.pinned (OpenSpec.ofChange gcTrailSpec)

/-- ITS FALSE NEIGHBOUR: 'it returns false'. Refute it at one input. -/
def gcTrailWrong : ChangeSpec := { name := "gcTrail", fn := fun _ => fun
  | [d1, d2] => { results := [.lit (.bool false)], args := [d1, d2] }
  | _ => none }
def GcTrailWrongFalsely : Prop := gcTrailRow.holds Try.pinned (OpenSpec.ofChange gcTrailWrong)

/-- 'sorrellaw09.GcNone': WHATEVER THE INPUT: true; the input reads as it did. -/
def gcNoneSpec : ChangeSpec := { name := "gcNone", fn := fun _ => fun
  | [d1, d2] => { results := [.lit (.bool true)], args := [d1, d2] }
  | _ => none }
def gcNoneRow : OpenClaim := { program := "ytnmkffkalnkbbaa", sum := "f79fcb2656984ae21450763c40b56d1f8eee1849eeb326519d6f0bb6ea385fcb", func := "sorrel/sorrellaw09.GcNone", spec := "gcNone", unfollowed := true, recurses := true, apart := false }
def GcNoneSaid : Prop := gcNoneRow.holds Try.pinned (OpenSpec.ofChange gcNoneSpec)

/-- ITS FALSE NEIGHBOUR: 'it returns false'. Refute it at one input. -/
def gcNoneWrong : ChangeSpec := { name := "gcNone", fn := fun _ => fun
  | [d1, d2] => { results := [.lit (.bool false)], args := [d1, d2] }
  | _ => none }
def GcNoneWrongFalsely : Prop := gcNoneRow.holds Try.pinned (OpenSpec.ofChange gcNoneWrong)

/- THE SECOND FORM. 'bulk': how many values and letters a reading holds, each counted each time it is reached (what is shared counts as often as it is met; a slice's spare places count too). A statement '..UptoSaid' is the law's where the arguments, and the package variables that the reading takes, are together of bulk at most 1048576: NARROWER than '..Said'. Prove '..Said' where nothing that the law and all that it calls make is longer than what came in: it says more and counts as full. Else prove '..UptoSaid'. A law counts once. -/
mutual
def uptoBulk {H : Type} : DataW H → Nat
  | .lit (.string bytes) => bytes.length + 1
  | .lit _ => 1
  | .nil => 1
  | .ptr d => uptoBulk d + 1
  | .slice elems spare => uptoBulkAll elems + uptoBulkAll spare + 1
  | .agg parts => uptoBulkAll parts + 1
  | .iface _ d => uptoBulk d + 1
  | .map entries => uptoBulkEntries entries + 1
  | .held _ => 1
def uptoBulkAll {H : Type} : List (DataW H) → Nat
  | [] => 0
  | d :: r => uptoBulk d + uptoBulkAll r
def uptoBulkEntries {H : Type} : List (Lit × DataW H) → Nat
  | [] => 0
  | x :: r => uptoBulkEntry x + uptoBulkEntries r
def uptoBulkEntry {H : Type} : Lit × DataW H → Nat
  | (.string bytes, d) => bytes.length + uptoBulk d + 1
  | (_, d) => uptoBulk d + 1
 end
def uptoSmall : (H : Type) → List (DataW H) → Bool := fun _ ds => decide (uptoBulkAll ds ≤ 1048576)
def OpenSpec.upto (s : _root_.Go.ChangeSpec) : _root_.Go.OpenSpec := { _root_.Go.OpenSpec.ofChange s with cond := some uptoSmall }

/-- 'sorrellaw09.GcTells', WHERE WHAT IT READS IS OF BULK AT MOST 1048576: true; the input reads as it did. -/
def gcTellsUptoRow : OpenClaim := { program := "ytnmkffkalnkbbaa", sum := "f79fcb2656984ae21450763c40b56d1f8eee1849eeb326519d6f0bb6ea385fcb", func := "sorrel/sorrellaw09.GcTells", spec := "gcTells", unfollowed := true, recurses := true, apart := false, narrowed := true }
def GcTellsUptoSaid : Prop := gcTellsUptoRow.holds Try.pinned (OpenSpec.upto gcTellsSpec)

/-- 'sorrellaw09.GcSame', WHERE WHAT IT READS IS OF BULK AT MOST 1048576: true; the input reads as it did. -/
def gcSameUptoRow : OpenClaim := { program := "ytnmkffkalnkbbaa", sum := "f79fcb2656984ae21450763c40b56d1f8eee1849eeb326519d6f0bb6ea385fcb", func := "sorrel/sorrellaw09.GcSame", spec := "gcSame", unfollowed := true, recurses := true, apart := false, narrowed := true }
def GcSameUptoSaid : Prop := gcSameUptoRow.holds Try.pinned (OpenSpec.upto gcSameSpec)

/-- 'sorrellaw09.GcUndo', WHERE WHAT IT READS IS OF BULK AT MOST 1048576: true; the input reads as it did. -/
def gcUndoUptoRow : OpenClaim := { program := "ytnmkffkalnkbbaa", sum := "f79fcb2656984ae21450763c40b56d1f8eee1849eeb326519d6f0bb6ea385fcb", func := "sorrel/sorrellaw09.GcUndo", spec := "gcUndo", unfollowed := true, recurses := true, apart := false, narrowed := true }
def GcUndoUptoSaid : Prop := gcUndoUptoRow.holds Try.pinned (OpenSpec.upto gcUndoSpec)

/-- 'sorrellaw09.GcSlides', WHERE WHAT IT READS IS OF BULK AT MOST 1048576: true; the input reads as it did. -/
def gcSlidesUptoRow : OpenClaim := { program := "ytnmkffkalnkbbaa", sum := "f79fcb2656984ae21450763c40b56d1f8eee1849eeb326519d6f0bb6ea385fcb", func := "sorrel/sorrellaw09.GcSlides", spec := "gcSlides", unfollowed := true, recurses := true, apart := false, narrowed := true }
def GcSlidesUptoSaid : Prop := gcSlidesUptoRow.holds Try.pinned (OpenSpec.upto gcSlidesSpec)

/-- 'sorrellaw09.GcAgain', WHERE WHAT IT READS IS OF BULK AT MOST 1048576: true; the input reads as it did. -/
def gcAgainUptoRow : OpenClaim := { program := "ytnmkffkalnkbbaa", sum := "f79fcb2656984ae21450763c40b56d1f8eee1849eeb326519d6f0bb6ea385fcb", func := "sorrel/sorrellaw09.GcAgain", spec := "gcAgain", unfollowed := true, recurses := true, apart := false, narrowed := true }
def GcAgainUptoSaid : Prop := gcAgainUptoRow.holds Try.pinned (OpenSpec.upto gcAgainSpec)

/-- 'sorrellaw09.GcOn', WHERE WHAT IT READS IS OF BULK AT MOST 1048576: true; the input reads as it did. -/
def gcOnUptoRow : OpenClaim := { program := "ytnmkffkalnkbbaa", sum := "f79fcb2656984ae21450763c40b56d1f8eee1849eeb326519d6f0bb6ea385fcb", func := "sorrel/sorrellaw09.GcOn", spec := "gcOn", unfollowed := true, recurses := true, apart := false, narrowed := true }
def GcOnUptoSaid : Prop := gcOnUptoRow.holds Try.pinned (OpenSpec.upto gcOnSpec)

/-- 'sorrellaw09.GcTrail', WHERE WHAT IT READS IS OF BULK AT MOST 1048576: true; the input reads as it did. -/
def gcTrailUptoRow : OpenClaim := { program := "ytnmkffkalnkbbaa", sum := "f79fcb2656984ae21450763c40b56d1f8eee1849eeb326519d6f0bb6ea385fcb", func := "sorrel/sorrellaw09.GcTrail", spec := "gcTrail", unfollowed := true, recurses := true, apart := false, narrowed := true }
def GcTrailUptoSaid : Prop := gcTrailUptoRow.holds Try.pinned (OpenSpec.upto gcTrailSpec)

/-- 'sorrellaw09.GcNone', WHERE WHAT IT READS IS OF BULK AT MOST 1048576: true; the input reads as it did. -/
def gcNoneUptoRow : OpenClaim := { program := "ytnmkffkalnkbbaa", sum := "f79fcb2656984ae21450763c40b56d1f8eee1849eeb326519d6f0bb6ea385fcb", func := "sorrel/sorrellaw09.GcNone", spec := "gcNone", unfollowed := true, recurses := true, apart := false, narrowed := true }
def GcNoneUptoSaid : Prop := gcNoneUptoRow.holds Try.pinned (OpenSpec.upto gcNoneSpec)

end Rows
end Go.Proofs.Ytnmkffkalnkbbaa
