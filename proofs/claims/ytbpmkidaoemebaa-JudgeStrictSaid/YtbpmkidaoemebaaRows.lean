/-
  No cell of these rows narrows 'for every input' (looked for: loops, veiled, ifaces, maps, wideKeys, modest, calm, conditions, laid).
  DERIVED. THE GIVEN ROWS OF THIS SEAT. 8 by the template 'for every input the law returns true; each argument reads behind the call as it read before'; 0 by the template 'total and deterministic' (their statements: YtbpmkidaoemebaaTotals.lean).
  GIVEN WITH THE SEED: the statements are not yours to turn. If you find one false, say at which input.
  Laid BY PROGRAM, IN A SANDBOX (cutbox-rows.mjs): the forced cells as the released guide's own fill.sh prints them over the translation 636aa4d6315183fd… (all of the seat's roots in one cut). By AI agents, Wed Nov 11 2026. No macro, syntax, notation, axiom, sorry.
-/
import Derived.Test.YtbpmkidaoemebaaChecked
import GoSem.Claim
import GoSem.ClaimJoined
import GoSem.ClaimMapViews
import Derived.JoinedTies
import Derived.KernelRfl
namespace Go.Proofs.Ytbpmkidaoemebaa
/- THE CELL 'sum', in the pinned program and in every row, IS THE sha256 OF THE DUMP (.gsa) THAT YtbpmkidaoemebaaProg.lean LOADS. Nothing in Lean hashes anything: it is a label: what it is worth is what the hold of that sum in a sandbox is worth. -/
noncomputable def Try.pinned : Pinned := { name := "ytbpmkidaoemebaa", sum := "636aa4d6315183fd543666d882dcc29b9de9be1a719e1cf7fde316a99c6b8e8a", checked := Try.checked }
namespace Rows
def none {H : Type} : Left H := { results := [], args := [] }

/-- 'sorrellaw22.JudgeBuilt': WHATEVER THE INPUT: true; the input reads as it did. -/
def judgeBuiltSpec : ChangeSpec := { name := "judgeBuilt", fn := fun _ => fun
  | [d] => { results := [.lit (.bool true)], args := [d] }
  | _ => none }
def judgeBuiltRow : OpenClaim := { program := "ytbpmkidaoemebaa", sum := "636aa4d6315183fd543666d882dcc29b9de9be1a719e1cf7fde316a99c6b8e8a", func := "sorrel/sorrellaw22.JudgeBuilt", spec := "judgeBuilt", unfollowed := true, recurses := true, apart := false }
def JudgeBuiltSaid : Prop := judgeBuiltRow.holds Try.pinned (OpenSpec.ofChange judgeBuiltSpec)

/-- ITS FALSE NEIGHBOUR: 'it returns false'. Refute it at one input. -/
def judgeBuiltWrong : ChangeSpec := { name := "judgeBuilt", fn := fun _ => fun
  | [d] => { results := [.lit (.bool false)], args := [d] }
  | _ => none }
def JudgeBuiltWrongFalsely : Prop := judgeBuiltRow.holds Try.pinned (OpenSpec.ofChange judgeBuiltWrong)

/-- 'sorrellaw22.JudgeTells': WHATEVER THE INPUT: true; the input reads as it did. -/
def judgeTellsSpec : ChangeSpec := { name := "judgeTells", fn := fun _ => fun
  | [d1, d2] => { results := [.lit (.bool true)], args := [d1, d2] }
  | _ => none }
def judgeTellsRow : OpenClaim := { program := "ytbpmkidaoemebaa", sum := "636aa4d6315183fd543666d882dcc29b9de9be1a719e1cf7fde316a99c6b8e8a", func := "sorrel/sorrellaw22.JudgeTells", spec := "judgeTells", unfollowed := true, recurses := true, apart := false }
def JudgeTellsSaid : Prop := judgeTellsRow.holds Try.pinned (OpenSpec.ofChange judgeTellsSpec)

/-- ITS FALSE NEIGHBOUR: 'it returns false'. Refute it at one input. -/
def judgeTellsWrong : ChangeSpec := { name := "judgeTells", fn := fun _ => fun
  | [d1, d2] => { results := [.lit (.bool false)], args := [d1, d2] }
  | _ => none }
def JudgeTellsWrongFalsely : Prop := judgeTellsRow.holds Try.pinned (OpenSpec.ofChange judgeTellsWrong)

/-- 'sorrellaw22.JudgeParts': WHATEVER THE INPUT: true; the input reads as it did. -/
def judgePartsSpec : ChangeSpec := { name := "judgeParts", fn := fun _ => fun
  | [d1, d2, d3] => { results := [.lit (.bool true)], args := [d1, d2, d3] }
  | _ => none }
def judgePartsRow : OpenClaim := { program := "ytbpmkidaoemebaa", sum := "636aa4d6315183fd543666d882dcc29b9de9be1a719e1cf7fde316a99c6b8e8a", func := "sorrel/sorrellaw22.JudgeParts", spec := "judgeParts", unfollowed := true, recurses := true, apart := false }
def JudgePartsSaid : Prop := judgePartsRow.holds Try.pinned (OpenSpec.ofChange judgePartsSpec)

/-- ITS FALSE NEIGHBOUR: 'it returns false'. Refute it at one input. -/
def judgePartsWrong : ChangeSpec := { name := "judgeParts", fn := fun _ => fun
  | [d1, d2, d3] => { results := [.lit (.bool false)], args := [d1, d2, d3] }
  | _ => none }
def JudgePartsWrongFalsely : Prop := judgePartsRow.holds Try.pinned (OpenSpec.ofChange judgePartsWrong)

/-- 'sorrellaw22.JudgeStrict': WHATEVER THE INPUT: true; the input reads as it did. -/
def judgeStrictSpec : ChangeSpec := { name := "judgeStrict", fn := fun _ => fun
  | [d1, d2] => { results := [.lit (.bool true)], args := [d1, d2] }
  | _ => none }
def judgeStrictRow : OpenClaim := { program := "ytbpmkidaoemebaa", sum := "636aa4d6315183fd543666d882dcc29b9de9be1a719e1cf7fde316a99c6b8e8a", func := "sorrel/sorrellaw22.JudgeStrict", spec := "judgeStrict", unfollowed := true, recurses := true, apart := false }
def JudgeStrictSaid : Prop := judgeStrictRow.holds Try.pinned (OpenSpec.ofChange judgeStrictSpec)

/-- ITS FALSE NEIGHBOUR: 'it returns false'. Refute it at one input. -/
def judgeStrictWrong : ChangeSpec := { name := "judgeStrict", fn := fun _ => fun
  | [d1, d2] => { results := [.lit (.bool false)], args := [d1, d2] }
  | _ => none }
def JudgeStrictWrongFalsely : Prop := judgeStrictRow.holds Try.pinned (OpenSpec.ofChange judgeStrictWrong)

/-- 'sorrellaw22.JudgeModel': WHATEVER THE INPUT: true; the input reads as it did. -/
def judgeModelSpec : ChangeSpec := { name := "judgeModel", fn := fun _ => fun
  | [d1, d2] => { results := [.lit (.bool true)], args := [d1, d2] }
  | _ => none }
def judgeModelRow : OpenClaim := { program := "ytbpmkidaoemebaa", sum := "636aa4d6315183fd543666d882dcc29b9de9be1a719e1cf7fde316a99c6b8e8a", func := "sorrel/sorrellaw22.JudgeModel", spec := "judgeModel", unfollowed := true, recurses := true, apart := false }
def JudgeModelSaid : Prop := judgeModelRow.holds Try.pinned (OpenSpec.ofChange judgeModelSpec)

/-- ITS FALSE NEIGHBOUR: 'it returns false'. Refute it at one input. -/
def judgeModelWrong : ChangeSpec := { name := "judgeModel", fn := fun _ => fun
  | [d1, d2] => { results := [.lit (.bool false)], args := [d1, d2] }
  | _ => none }
def JudgeModelWrongFalsely : Prop := judgeModelRow.holds Try.pinned (OpenSpec.ofChange judgeModelWrong)

/-- 'sorrellaw22.JudgeSound': WHATEVER THE INPUT: true; the input reads as it did. -/
def judgeSoundSpec : ChangeSpec := { name := "judgeSound", fn := fun _ => fun
  | [d1, d2] => { results := [.lit (.bool true)], args := [d1, d2] }
  | _ => none }
def judgeSoundRow : OpenClaim := { program := "ytbpmkidaoemebaa", sum := "636aa4d6315183fd543666d882dcc29b9de9be1a719e1cf7fde316a99c6b8e8a", func := "sorrel/sorrellaw22.JudgeSound", spec := "judgeSound", unfollowed := true, recurses := true, apart := false }
def JudgeSoundSaid : Prop := judgeSoundRow.holds Try.pinned (OpenSpec.ofChange judgeSoundSpec)

/-- ITS FALSE NEIGHBOUR: 'it returns false'. Refute it at one input. -/
def judgeSoundWrong : ChangeSpec := { name := "judgeSound", fn := fun _ => fun
  | [d1, d2] => { results := [.lit (.bool false)], args := [d1, d2] }
  | _ => none }
def JudgeSoundWrongFalsely : Prop := judgeSoundRow.holds Try.pinned (OpenSpec.ofChange judgeSoundWrong)

/-- 'sorrellaw22.JudgeNone': WHATEVER THE INPUT: true; the input reads as it did. -/
def judgeNoneSpec : ChangeSpec := { name := "judgeNone", fn := fun _ => fun
  | [d] => { results := [.lit (.bool true)], args := [d] }
  | _ => none }
def judgeNoneRow : OpenClaim := { program := "ytbpmkidaoemebaa", sum := "636aa4d6315183fd543666d882dcc29b9de9be1a719e1cf7fde316a99c6b8e8a", func := "sorrel/sorrellaw22.JudgeNone", spec := "judgeNone", unfollowed := true, recurses := true, apart := false }
def JudgeNoneSaid : Prop := judgeNoneRow.holds Try.pinned (OpenSpec.ofChange judgeNoneSpec)

/-- ITS FALSE NEIGHBOUR: 'it returns false'. Refute it at one input. -/
def judgeNoneWrong : ChangeSpec := { name := "judgeNone", fn := fun _ => fun
  | [d] => { results := [.lit (.bool false)], args := [d] }
  | _ => none }
def JudgeNoneWrongFalsely : Prop := judgeNoneRow.holds Try.pinned (OpenSpec.ofChange judgeNoneWrong)

/-- 'sorrellaw22.JudgeLies': WHATEVER THE INPUT: true; the input reads as it did. -/
def judgeLiesSpec : ChangeSpec := { name := "judgeLies", fn := fun _ => fun
  | [d1, d2, d3] => { results := [.lit (.bool true)], args := [d1, d2, d3] }
  | _ => none }
def judgeLiesRow : OpenClaim := { program := "ytbpmkidaoemebaa", sum := "636aa4d6315183fd543666d882dcc29b9de9be1a719e1cf7fde316a99c6b8e8a", func := "sorrel/sorrellaw22.JudgeLies", spec := "judgeLies", unfollowed := true, recurses := true, apart := false }
def JudgeLiesSaid : Prop := judgeLiesRow.holds Try.pinned (OpenSpec.ofChange judgeLiesSpec)

/-- ITS FALSE NEIGHBOUR: 'it returns false'. Refute it at one input. -/
def judgeLiesWrong : ChangeSpec := { name := "judgeLies", fn := fun _ => fun
  | [d1, d2, d3] => { results := [.lit (.bool false)], args := [d1, d2, d3] }
  | _ => none }
def JudgeLiesWrongFalsely : Prop := judgeLiesRow.holds Try.pinned (OpenSpec.ofChange judgeLiesWrong)

/- THE SECOND FORM. 'bulk': how many values and letters a reading holds, each counted each time it is reached (what is shared counts as often as it is met; a slice's spare places count too). A statement '..UptoSaid' is the law's where the arguments, and the package variables that the reading takes, are together of bulk at most 1048576: NARROWER than '..Said'. Prove '..Said' where nothing that the law and all that it calls make is longer than what came in: it says more and counts as full. Else prove '..UptoSaid'. A law counts once. -/
mutual
def uptoBulk {H : Type} : DataW H → Nat
  | .lit (.string bytes) => bytes.length + 1
  | .lit _ => 1
  | .nil => 1
  | .ptr d => uptoBulk d + 1
  | .slice elems spare => uptoBulkAll elems + uptoBulkAll spare + 1
  | .agg parts => uptoBulkAll parts + 1
  | .iface _ d => uptoBulk d + 1
  | .map entries => uptoBulkEntries entries + 1
  | .held _ => 1
def uptoBulkAll {H : Type} : List (DataW H) → Nat
  | [] => 0
  | d :: r => uptoBulk d + uptoBulkAll r
def uptoBulkEntries {H : Type} : List (Lit × DataW H) → Nat
  | [] => 0
  | x :: r => uptoBulkEntry x + uptoBulkEntries r
def uptoBulkEntry {H : Type} : Lit × DataW H → Nat
  | (.string bytes, d) => bytes.length + uptoBulk d + 1
  | (_, d) => uptoBulk d + 1
 end
def uptoSmall : (H : Type) → List (DataW H) → Bool := fun _ ds => decide (uptoBulkAll ds ≤ 1048576)
def OpenSpec.upto (s : _root_.Go.ChangeSpec) : _root_.Go.OpenSpec := { _root_.Go.OpenSpec.ofChange s with cond := some uptoSmall }

/-- 'sorrellaw22.JudgeBuilt', WHERE WHAT IT READS IS OF BULK AT MOST 1048576: true; the input reads as it did. -/
def judgeBuiltUptoRow : OpenClaim := { program := "ytbpmkidaoemebaa", sum := "636aa4d6315183fd543666d882dcc29b9de9be1a719e1cf7fde316a99c6b8e8a", func := "sorrel/sorrellaw22.JudgeBuilt", spec := "judgeBuilt", unfollowed := true, recurses := true, apart := false, narrowed := true }
def JudgeBuiltUptoSaid : Prop := judgeBuiltUptoRow.holds Try.pinned (OpenSpec.upto judgeBuiltSpec)

/-- 'sorrellaw22.JudgeTells', WHERE WHAT IT READS IS OF BULK AT MOST 1048576: true; the input reads as it did. -/
def judgeTellsUptoRow : OpenClaim := { program := "ytbpmkidaoemebaa", sum := "636aa4d6315183fd543666d882dcc29b9de9be1a719e1cf7fde316a99c6b8e8a", func := "sorrel/sorrellaw22.JudgeTells", spec := "judgeTells", unfollowed := true, recurses := true, apart := false, narrowed := true }
def JudgeTellsUptoSaid : Prop := judgeTellsUptoRow.holds Try.pinned (OpenSpec.upto judgeTellsSpec)

/-- 'sorrellaw22.JudgeParts', WHERE WHAT IT READS IS OF BULK AT MOST 1048576: true; the input reads as it did. -/
def judgePartsUptoRow : OpenClaim := { program := "ytbpmkidaoemebaa", sum := "636aa4d6315183fd543666d882dcc29b9de9be1a719e1cf7fde316a99c6b8e8a", func := "sorrel/sorrellaw22.JudgeParts", spec := "judgeParts", unfollowed := true, recurses := true, apart := false, narrowed := true }
def JudgePartsUptoSaid : Prop := judgePartsUptoRow.holds Try.pinned (OpenSpec.upto judgePartsSpec)

/-- 'sorrellaw22.JudgeStrict', WHERE WHAT IT READS IS OF BULK AT MOST 1048576: true; the input reads as it did. -/
def judgeStrictUptoRow : OpenClaim := { program := "ytbpmkidaoemebaa", sum := "636aa4d6315183fd543666d882dcc29b9de9be1a719e1cf7fde316a99c6b8e8a", func := "sorrel/sorrellaw22.JudgeStrict", spec := "judgeStrict", unfollowed := true, recurses := true, apart := false, narrowed := true }
def JudgeStrictUptoSaid : Prop := judgeStrictUptoRow.holds Try.pinned (OpenSpec.upto judgeStrictSpec)

/-- 'sorrellaw22.JudgeModel', WHERE WHAT IT READS IS OF BULK AT MOST 1048576: true; the input reads as it did. -/
def judgeModelUptoRow : OpenClaim := { program := "ytbpmkidaoemebaa", sum := "636aa4d6315183fd543666d882dcc29b9de9be1a719e1cf7fde316a99c6b8e8a", func := "sorrel/sorrellaw22.JudgeModel", spec := "judgeModel", unfollowed := true, recurses := true, apart := false, narrowed := true }
def JudgeModelUptoSaid : Prop := judgeModelUptoRow.holds Try.pinned (OpenSpec.upto judgeModelSpec)

/-- 'sorrellaw22.JudgeSound', WHERE WHAT IT READS IS OF BULK AT MOST 1048576: true; the input reads as it did. -/
def judgeSoundUptoRow : OpenClaim := { program := "ytbpmkidaoemebaa", sum := "636aa4d6315183fd543666d882dcc29b9de9be1a719e1cf7fde316a99c6b8e8a", func := "sorrel/sorrellaw22.JudgeSound", spec := "judgeSound", unfollowed := true, recurses := true, apart := false, narrowed := true }
def JudgeSoundUptoSaid : Prop := judgeSoundUptoRow.holds Try.pinned (OpenSpec.upto judgeSoundSpec)

/-- 'sorrellaw22.JudgeNone', WHERE WHAT IT READS IS OF BULK AT MOST 1048576: true; the input reads as it did. -/
def judgeNoneUptoRow : OpenClaim := { program := "ytbpmkidaoemebaa", sum := "636aa4d6315183fd543666d882dcc29b9de9be1a719e1cf7fde316a99c6b8e8a", func := "sorrel/sorrellaw22.JudgeNone", spec := "judgeNone", unfollowed := true, recurses := true, apart := false, narrowed := true }
def JudgeNoneUptoSaid : Prop := judgeNoneUptoRow.holds Try.pinned (OpenSpec.upto judgeNoneSpec)

/-- 'sorrellaw22.JudgeLies', WHERE WHAT IT READS IS OF BULK AT MOST 1048576: true; the input reads as it did. -/
def judgeLiesUptoRow : OpenClaim := { program := "ytbpmkidaoemebaa", sum := "636aa4d6315183fd543666d882dcc29b9de9be1a719e1cf7fde316a99c6b8e8a", func := "sorrel/sorrellaw22.JudgeLies", spec := "judgeLies", unfollowed := true, recurses := true, apart := false, narrowed := true }
def JudgeLiesUptoSaid : Prop := judgeLiesUptoRow.holds Try.pinned (OpenSpec.upto judgeLiesSpec)

end Rows
end Go.Proofs.Ytbpmkidaoemebaa
