/-
  No cell of these rows narrows 'for every input' (looked for: loops, veiled, ifaces, maps, wideKeys, modest, calm, conditions, laid).
  DERIVED. THE GIVEN ROWS OF THIS SEAT. 9 by the template 'for every input the law returns true; each argument reads behind the call as it read before'; 0 by the template 'total and deterministic' (their statements: YtegjmfcfjedfjaaTotals.lean).
  GIVEN WITH THE SEED: the statements are not yours to turn. If you find one false, say at which input.
  Laid BY PROGRAM, IN A SANDBOX (cutbox-rows.mjs): the forced cells as the released guide's own fill.sh prints them over the translation b324730c2ee2bedf… (all of the seat's roots in one cut). By AI agents, Wed Nov 11 2026. No macro, syntax, notation, axiom, sorry.
-/
import Derived.Test.YtegjmfcfjedfjaaChecked
import GoSem.Claim
import GoSem.ClaimJoined
import GoSem.ClaimMapViews
import Derived.JoinedTies
import Derived.KernelRfl
namespace Go.Proofs.Ytegjmfcfjedfjaa
/- THE CELL 'sum', in the pinned program and in every row, IS THE sha256 OF THE DUMP (.gsa) THAT YtegjmfcfjedfjaaProg.lean LOADS. Nothing in Lean hashes anything: it is a label: what it is worth is what the hold of that sum in a sandbox is worth. -/
noncomputable def Try.pinned : Pinned := { name := "ytegjmfcfjedfjaa", sum := "b324730c2ee2bedf9b369e331e94c5e96c373c8d90b4bacd7dd42e96f4af0d72", checked := Try.checked }
namespace Rows
def none {H : Type} : Left H := { results := [], args := [] }

/-- 'sorrellaw17.WfmTells': WHATEVER THE INPUT: true; the input reads as it did. -/
def wfmTellsSpec : ChangeSpec := { name := "wfmTells", fn := fun _ => fun
  | [d1, d2, d3] => { results := [.lit (.bool true)], args := [d1, d2, d3] }
  | _ => none }
def wfmTellsRow : OpenClaim := { program := "ytegjmfcfjedfjaa", sum := "b324730c2ee2bedf9b369e331e94c5e96c373c8d90b4bacd7dd42e96f4af0d72", func := "sorrel/sorrellaw17.WfmTells", spec := "wfmTells", unfollowed := true, recurses := true, apart := false }
def WfmTellsSaid : Prop := wfmTellsRow.holds Try.pinned (OpenSpec.ofChange wfmTellsSpec)

/-- ITS FALSE NEIGHBOUR: 'it returns false'. Refute it at one input. -/
def wfmTellsWrong : ChangeSpec := { name := "wfmTells", fn := fun _ => fun
  | [d1, d2, d3] => { results := [.lit (.bool false)], args := [d1, d2, d3] }
  | _ => none }
def WfmTellsWrongFalsely : Prop := wfmTellsRow.holds Try.pinned (OpenSpec.ofChange wfmTellsWrong)

/-- 'sorrellaw17.WfmLeast': WHATEVER THE INPUT: true; the input reads as it did. -/
def wfmLeastSpec : ChangeSpec := { name := "wfmLeast", fn := fun _ => fun
  | [d1, d2, d3] => { results := [.lit (.bool true)], args := [d1, d2, d3] }
  | _ => none }
def wfmLeastRow : OpenClaim := { program := "ytegjmfcfjedfjaa", sum := "b324730c2ee2bedf9b369e331e94c5e96c373c8d90b4bacd7dd42e96f4af0d72", func := "sorrel/sorrellaw17.WfmLeast", spec := "wfmLeast", unfollowed := true, recurses := true, apart := false }
def WfmLeastSaid : Prop := wfmLeastRow.holds Try.pinned (OpenSpec.ofChange wfmLeastSpec)

/-- ITS FALSE NEIGHBOUR: 'it returns false'. Refute it at one input. -/
def wfmLeastWrong : ChangeSpec := { name := "wfmLeast", fn := fun _ => fun
  | [d1, d2, d3] => { results := [.lit (.bool false)], args := [d1, d2, d3] }
  | _ => none }
def WfmLeastWrongFalsely : Prop := wfmLeastRow.holds Try.pinned (OpenSpec.ofChange wfmLeastWrong)

/-- 'sorrellaw17.WfmLess': WHATEVER THE INPUT: true; the input reads as it did. -/
def wfmLessSpec : ChangeSpec := { name := "wfmLess", fn := fun _ => fun
  | [d1, d2, d3] => { results := [.lit (.bool true)], args := [d1, d2, d3] }
  | _ => none }
def wfmLessRow : OpenClaim := { program := "ytegjmfcfjedfjaa", sum := "b324730c2ee2bedf9b369e331e94c5e96c373c8d90b4bacd7dd42e96f4af0d72", func := "sorrel/sorrellaw17.WfmLess", spec := "wfmLess", unfollowed := true, recurses := true, apart := false }
def WfmLessSaid : Prop := wfmLessRow.holds Try.pinned (OpenSpec.ofChange wfmLessSpec)

/-- ITS FALSE NEIGHBOUR: 'it returns false'. Refute it at one input. -/
def wfmLessWrong : ChangeSpec := { name := "wfmLess", fn := fun _ => fun
  | [d1, d2, d3] => { results := [.lit (.bool false)], args := [d1, d2, d3] }
  | _ => none }
def WfmLessWrongFalsely : Prop := wfmLessRow.holds Try.pinned (OpenSpec.ofChange wfmLessWrong)

/-- 'sorrellaw17.WfmSides': WHATEVER THE INPUT: true; the input reads as it did. -/
def wfmSidesSpec : ChangeSpec := { name := "wfmSides", fn := fun _ => fun
  | [d] => { results := [.lit (.bool true)], args := [d] }
  | _ => none }
def wfmSidesRow : OpenClaim := { program := "ytegjmfcfjedfjaa", sum := "b324730c2ee2bedf9b369e331e94c5e96c373c8d90b4bacd7dd42e96f4af0d72", func := "sorrel/sorrellaw17.WfmSides", spec := "wfmSides", unfollowed := true, recurses := true, apart := false }
def WfmSidesSaid : Prop := wfmSidesRow.holds Try.pinned (OpenSpec.ofChange wfmSidesSpec)

/-- ITS FALSE NEIGHBOUR: 'it returns false'. Refute it at one input. -/
def wfmSidesWrong : ChangeSpec := { name := "wfmSides", fn := fun _ => fun
  | [d] => { results := [.lit (.bool false)], args := [d] }
  | _ => none }
def WfmSidesWrongFalsely : Prop := wfmSidesRow.holds Try.pinned (OpenSpec.ofChange wfmSidesWrong)

/-- 'sorrellaw17.WfmStable': WHATEVER THE INPUT: true; the input reads as it did. -/
def wfmStableSpec : ChangeSpec := { name := "wfmStable", fn := fun _ => fun
  | [d1, d2] => { results := [.lit (.bool true)], args := [d1, d2] }
  | _ => none }
def wfmStableRow : OpenClaim := { program := "ytegjmfcfjedfjaa", sum := "b324730c2ee2bedf9b369e331e94c5e96c373c8d90b4bacd7dd42e96f4af0d72", func := "sorrel/sorrellaw17.WfmStable", spec := "wfmStable", unfollowed := true, recurses := true, apart := false }
def WfmStableSaid : Prop := wfmStableRow.holds Try.pinned (OpenSpec.ofChange wfmStableSpec)

/-- ITS FALSE NEIGHBOUR: 'it returns false'. Refute it at one input. -/
def wfmStableWrong : ChangeSpec := { name := "wfmStable", fn := fun _ => fun
  | [d1, d2] => { results := [.lit (.bool false)], args := [d1, d2] }
  | _ => none }
def WfmStableWrongFalsely : Prop := wfmStableRow.holds Try.pinned (OpenSpec.ofChange wfmStableWrong)

/-- 'sorrellaw17.WfmUnfounded': WHATEVER THE INPUT: true; the input reads as it did. -/
def wfmUnfoundedSpec : ChangeSpec := { name := "wfmUnfounded", fn := fun _ => fun
  | [d1, d2, d3] => { results := [.lit (.bool true)], args := [d1, d2, d3] }
  | _ => none }
def wfmUnfoundedRow : OpenClaim := { program := "ytegjmfcfjedfjaa", sum := "b324730c2ee2bedf9b369e331e94c5e96c373c8d90b4bacd7dd42e96f4af0d72", func := "sorrel/sorrellaw17.WfmUnfounded", spec := "wfmUnfounded", unfollowed := true, recurses := true, apart := false }
def WfmUnfoundedSaid : Prop := wfmUnfoundedRow.holds Try.pinned (OpenSpec.ofChange wfmUnfoundedSpec)

/-- ITS FALSE NEIGHBOUR: 'it returns false'. Refute it at one input. -/
def wfmUnfoundedWrong : ChangeSpec := { name := "wfmUnfounded", fn := fun _ => fun
  | [d1, d2, d3] => { results := [.lit (.bool false)], args := [d1, d2, d3] }
  | _ => none }
def WfmUnfoundedWrongFalsely : Prop := wfmUnfoundedRow.holds Try.pinned (OpenSpec.ofChange wfmUnfoundedWrong)

/-- 'sorrellaw17.WfmRules': WHATEVER THE INPUT: true; the input reads as it did. -/
def wfmRulesSpec : ChangeSpec := { name := "wfmRules", fn := fun _ => fun
  | [d] => { results := [.lit (.bool true)], args := [d] }
  | _ => none }
def wfmRulesRow : OpenClaim := { program := "ytegjmfcfjedfjaa", sum := "b324730c2ee2bedf9b369e331e94c5e96c373c8d90b4bacd7dd42e96f4af0d72", func := "sorrel/sorrellaw17.WfmRules", spec := "wfmRules", unfollowed := true, recurses := true, apart := false }
def WfmRulesSaid : Prop := wfmRulesRow.holds Try.pinned (OpenSpec.ofChange wfmRulesSpec)

/-- ITS FALSE NEIGHBOUR: 'it returns false'. Refute it at one input. -/
def wfmRulesWrong : ChangeSpec := { name := "wfmRules", fn := fun _ => fun
  | [d] => { results := [.lit (.bool false)], args := [d] }
  | _ => none }
def WfmRulesWrongFalsely : Prop := wfmRulesRow.holds Try.pinned (OpenSpec.ofChange wfmRulesWrong)

/-- 'sorrellaw17.WfmAlone': WHATEVER THE INPUT: true; the input reads as it did. -/
def wfmAloneSpec : ChangeSpec := { name := "wfmAlone", fn := fun _ => fun
  | [d1, d2] => { results := [.lit (.bool true)], args := [d1, d2] }
  | _ => none }
def wfmAloneRow : OpenClaim := { program := "ytegjmfcfjedfjaa", sum := "b324730c2ee2bedf9b369e331e94c5e96c373c8d90b4bacd7dd42e96f4af0d72", func := "sorrel/sorrellaw17.WfmAlone", spec := "wfmAlone", unfollowed := true, recurses := true, apart := false }
def WfmAloneSaid : Prop := wfmAloneRow.holds Try.pinned (OpenSpec.ofChange wfmAloneSpec)

/-- ITS FALSE NEIGHBOUR: 'it returns false'. Refute it at one input. -/
def wfmAloneWrong : ChangeSpec := { name := "wfmAlone", fn := fun _ => fun
  | [d1, d2] => { results := [.lit (.bool false)], args := [d1, d2] }
  | _ => none }
def WfmAloneWrongFalsely : Prop := wfmAloneRow.holds Try.pinned (OpenSpec.ofChange wfmAloneWrong)

/-- 'sorrellaw17.WfmPositive': WHATEVER THE INPUT: true; the input reads as it did. -/
def wfmPositiveSpec : ChangeSpec := { name := "wfmPositive", fn := fun _ => fun
  | [d1, d2] => { results := [.lit (.bool true)], args := [d1, d2] }
  | _ => none }
def wfmPositiveRow : OpenClaim := { program := "ytegjmfcfjedfjaa", sum := "b324730c2ee2bedf9b369e331e94c5e96c373c8d90b4bacd7dd42e96f4af0d72", func := "sorrel/sorrellaw17.WfmPositive", spec := "wfmPositive", unfollowed := true, recurses := true, apart := false }
def WfmPositiveSaid : Prop := wfmPositiveRow.holds Try.pinned (OpenSpec.ofChange wfmPositiveSpec)

/-- ITS FALSE NEIGHBOUR: 'it returns false'. Refute it at one input. -/
def wfmPositiveWrong : ChangeSpec := { name := "wfmPositive", fn := fun _ => fun
  | [d1, d2] => { results := [.lit (.bool false)], args := [d1, d2] }
  | _ => none }
def WfmPositiveWrongFalsely : Prop := wfmPositiveRow.holds Try.pinned (OpenSpec.ofChange wfmPositiveWrong)

/- THE SECOND FORM. 'bulk': how many values and letters a reading holds, each counted each time it is reached (what is shared counts as often as it is met; a slice's spare places count too). A statement '..UptoSaid' is the law's where the arguments, and the package variables that the reading takes, are together of bulk at most 1048576: NARROWER than '..Said'. Prove '..Said' where nothing that the law and all that it calls make is longer than what came in: it says more and counts as full. Else prove '..UptoSaid'. A law counts once. -/
mutual
def uptoBulk {H : Type} : DataW H → Nat
  | .lit (.string bytes) => bytes.length + 1
  | .lit _ => 1
  | .nil => 1
  | .ptr d => uptoBulk d + 1
  | .slice elems spare => uptoBulkAll elems + uptoBulkAll spare + 1
  | .agg parts => uptoBulkAll parts + 1
  | .iface _ d => uptoBulk d + 1
  | .map entries => uptoBulkEntries entries + 1
  | .held _ => 1
def uptoBulkAll {H : Type} : List (DataW H) → Nat
  | [] => 0
  | d :: r => uptoBulk d + uptoBulkAll r
def uptoBulkEntries {H : Type} : List (Lit × DataW H) → Nat
  | [] => 0
  | x :: r => uptoBulkEntry x + uptoBulkEntries r
def uptoBulkEntry {H : Type} : Lit × DataW H → Nat
  | (.string bytes, d) => bytes.length + uptoBulk d + 1
  | (_, d) => uptoBulk d + 1
 end
def uptoSmall : (H : Type) → List (DataW H) → Bool := fun _ ds => decide (uptoBulkAll ds ≤ 1048576)
def OpenSpec.upto (s : _root_.Go.ChangeSpec) : _root_.Go.OpenSpec := { _root_.Go.OpenSpec.ofChange s with cond := some uptoSmall }

/-- 'sorrellaw17.WfmTells', WHERE WHAT IT READS IS OF BULK AT MOST 1048576: true; the input reads as it did. -/
def wfmTellsUptoRow : OpenClaim := { program := "ytegjmfcfjedfjaa", sum := "b324730c2ee2bedf9b369e331e94c5e96c373c8d90b4bacd7dd42e96f4af0d72", func := "sorrel/sorrellaw17.WfmTells", spec := "wfmTells", unfollowed := true, recurses := true, apart := false, narrowed := true }
def WfmTellsUptoSaid : Prop := wfmTellsUptoRow.holds Try.pinned (OpenSpec.upto wfmTellsSpec)

/-- 'sorrellaw17.WfmLeast', WHERE WHAT IT READS IS OF BULK AT MOST 1048576: true; the input reads as it did. -/
def wfmLeastUptoRow : OpenClaim := { program := "ytegjmfcfjedfjaa", sum := "b324730c2ee2bedf9b369e331e94c5e96c373c8d90b4bacd7dd42e96f4af0d72", func := "sorrel/sorrellaw17.WfmLeast", spec := "wfmLeast", unfollowed := true, recurses := true, apart := false, narrowed := true }
def WfmLeastUptoSaid : Prop := wfmLeastUptoRow.holds Try.pinned (OpenSpec.upto wfmLeastSpec)

/-- 'sorrellaw17.WfmLess', WHERE WHAT IT READS IS OF BULK AT MOST 1048576: true; the input reads as it did. -/
def wfmLessUptoRow : OpenClaim := { program := "ytegjmfcfjedfjaa", sum := "b324730c2ee2bedf9b369e331e94c5e96c373c8d90b4bacd7dd42e96f4af0d72", func := "sorrel/sorrellaw17.WfmLess", spec := "wfmLess", unfollowed := true, recurses := true, apart := false, narrowed := true }
def WfmLessUptoSaid : Prop := wfmLessUptoRow.holds Try.pinned (OpenSpec.upto wfmLessSpec)

/-- 'sorrellaw17.WfmSides', WHERE WHAT IT READS IS OF BULK AT MOST 1048576: true; the input reads as it did. -/
def wfmSidesUptoRow : OpenClaim := { program := "ytegjmfcfjedfjaa", sum := "b324730c2ee2bedf9b369e331e94c5e96c373c8d90b4bacd7dd42e96f4af0d72", func := "sorrel/sorrellaw17.WfmSides", spec := "wfmSides", unfollowed := true, recurses := true, apart := false, narrowed := true }
def WfmSidesUptoSaid : Prop := wfmSidesUptoRow.holds Try.pinned (OpenSpec.upto wfmSidesSpec)

/-- 'sorrellaw17.WfmStable', WHERE WHAT IT READS IS OF BULK AT MOST 1048576: true; the input reads as it did. -/
def wfmStableUptoRow : OpenClaim := { program := "ytegjmfcfjedfjaa", sum := "b324730c2ee2bedf9b369e331e94c5e96c373c8d90b4bacd7dd42e96f4af0d72", func := "sorrel/sorrellaw17.WfmStable", spec := "wfmStable", unfollowed := true, recurses := true, apart := false, narrowed := true }
def WfmStableUptoSaid : Prop := wfmStableUptoRow.holds Try.pinned (OpenSpec.upto wfmStableSpec)

/-- 'sorrellaw17.WfmUnfounded', WHERE WHAT IT READS IS OF BULK AT MOST 1048576: true; the input reads as it did. -/
def wfmUnfoundedUptoRow : OpenClaim := { program := "ytegjmfcfjedfjaa", sum := "b324730c2ee2bedf9b369e331e94c5e96c373c8d90b4bacd7dd42e96f4af0d72", func := "sorrel/sorrellaw17.WfmUnfounded", spec := "wfmUnfounded", unfollowed := true, recurses := true, apart := false, narrowed := true }
def WfmUnfoundedUptoSaid : Prop := wfmUnfoundedUptoRow.holds Try.pinned (OpenSpec.upto wfmUnfoundedSpec)

/-- 'sorrellaw17.WfmRules', WHERE WHAT IT READS IS OF BULK AT MOST 1048576: true; the input reads as it did. -/
def wfmRulesUptoRow : OpenClaim := { program := "ytegjmfcfjedfjaa", sum := "b324730c2ee2bedf9b369e331e94c5e96c373c8d90b4bacd7dd42e96f4af0d72", func := "sorrel/sorrellaw17.WfmRules", spec := "wfmRules", unfollowed := true, recurses := true, apart := false, narrowed := true }
def WfmRulesUptoSaid : Prop := wfmRulesUptoRow.holds Try.pinned (OpenSpec.upto wfmRulesSpec)

/-- 'sorrellaw17.WfmAlone', WHERE WHAT IT READS IS OF BULK AT MOST 1048576: true; the input reads as it did. -/
def wfmAloneUptoRow : OpenClaim := { program := "ytegjmfcfjedfjaa", sum := "b324730c2ee2bedf9b369e331e94c5e96c373c8d90b4bacd7dd42e96f4af0d72", func := "sorrel/sorrellaw17.WfmAlone", spec := "wfmAlone", unfollowed := true, recurses := true, apart := false, narrowed := true }
def WfmAloneUptoSaid : Prop := wfmAloneUptoRow.holds Try.pinned (OpenSpec.upto wfmAloneSpec)

/-- 'sorrellaw17.WfmPositive', WHERE WHAT IT READS IS OF BULK AT MOST 1048576: true; the input reads as it did. -/
def wfmPositiveUptoRow : OpenClaim := { program := "ytegjmfcfjedfjaa", sum := "b324730c2ee2bedf9b369e331e94c5e96c373c8d90b4bacd7dd42e96f4af0d72", func := "sorrel/sorrellaw17.WfmPositive", spec := "wfmPositive", unfollowed := true, recurses := true, apart := false, narrowed := true }
def WfmPositiveUptoSaid : Prop := wfmPositiveUptoRow.holds Try.pinned (OpenSpec.upto wfmPositiveSpec)

end Rows
end Go.Proofs.Ytegjmfcfjedfjaa
