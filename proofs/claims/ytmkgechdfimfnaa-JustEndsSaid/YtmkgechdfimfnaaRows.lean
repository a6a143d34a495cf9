/-
  No cell of these rows narrows 'for every input' (looked for: loops, veiled, ifaces, maps, wideKeys, modest, calm, conditions, laid).
  DERIVED. THE GIVEN ROWS OF THIS SEAT. 7 by the template 'for every input the law returns true; each argument reads behind the call as it read before'; 0 by the template 'total and deterministic' (their statements: YtmkgechdfimfnaaTotals.lean).
  GIVEN WITH THE SEED: the statements are not yours to turn. If you find one false, say at which input.
  Laid BY PROGRAM, IN A SANDBOX (cutbox-rows.mjs): the forced cells as the released guide's own fill.sh prints them over the translation 4559695e5e1f77a9… (all of the seat's roots in one cut). By AI agents, Wed Nov 11 2026. No macro, syntax, notation, axiom, sorry.
-/
import Derived.Test.YtmkgechdfimfnaaChecked
import GoSem.Claim
import GoSem.ClaimJoined
import GoSem.ClaimMapViews
import Derived.JoinedTies
import Derived.KernelRfl
namespace Go.Proofs.Ytmkgechdfimfnaa
/- THE CELL 'sum', in the pinned program and in every row, IS THE sha256 OF THE DUMP (.gsa) THAT YtmkgechdfimfnaaProg.lean LOADS. Nothing in Lean hashes anything: it is a label: what it is worth is what the hold of that sum in a sandbox is worth. -/
noncomputable def Try.pinned : Pinned := { name := "ytmkgechdfimfnaa", sum := "4559695e5e1f77a9df0028b5bd5ce67ad2cf81ee7e2284ed15794854c95197c8", checked := Try.checked }
namespace Rows
def none {H : Type} : Left H := { results := [], args := [] }

/-- 'sorrellaw21.JustEnds': WHATEVER THE INPUT: true; the input reads as it did. -/
def justEndsSpec : ChangeSpec := { name := "justEnds", fn := fun _ => fun
  | [d1, d2, d3] => { results := [.lit (.bool true)], args := [d1, d2, d3] }
  | _ => none }
def justEndsRow : OpenClaim := { program := "ytmkgechdfimfnaa", sum := "4559695e5e1f77a9df0028b5bd5ce67ad2cf81ee7e2284ed15794854c95197c8", func := "sorrel/sorrellaw21.JustEnds", spec := "justEnds", unfollowed := true, recurses := true, apart := false }
def JustEndsSaid : Prop := justEndsRow.holds Try.pinned (OpenSpec.ofChange justEndsSpec)

/-- ITS FALSE NEIGHBOUR: 'it returns false'. Refute it at one input. -/
def justEndsWrong : ChangeSpec := { name := "justEnds", fn := fun _ => fun
  | [d1, d2, d3] => { results := [.lit (.bool false)], args := [d1, d2, d3] }
  | _ => none }
def JustEndsWrongFalsely : Prop := justEndsRow.holds Try.pinned (OpenSpec.ofChange justEndsWrong)

/-- 'sorrellaw21.JustTells': WHATEVER THE INPUT: true; the input reads as it did. -/
def justTellsSpec : ChangeSpec := { name := "justTells", fn := fun _ => fun
  | [d1, d2, d3] => { results := [.lit (.bool true)], args := [d1, d2, d3] }
  | _ => none }
def justTellsRow : OpenClaim := { program := "ytmkgechdfimfnaa", sum := "4559695e5e1f77a9df0028b5bd5ce67ad2cf81ee7e2284ed15794854c95197c8", func := "sorrel/sorrellaw21.JustTells", spec := "justTells", unfollowed := true, recurses := true, apart := false }
def JustTellsSaid : Prop := justTellsRow.holds Try.pinned (OpenSpec.ofChange justTellsSpec)

/-- ITS FALSE NEIGHBOUR: 'it returns false'. Refute it at one input. -/
def justTellsWrong : ChangeSpec := { name := "justTells", fn := fun _ => fun
  | [d1, d2, d3] => { results := [.lit (.bool false)], args := [d1, d2, d3] }
  | _ => none }
def JustTellsWrongFalsely : Prop := justTellsRow.holds Try.pinned (OpenSpec.ofChange justTellsWrong)

/-- 'sorrellaw21.JustModel': WHATEVER THE INPUT: true; the input reads as it did. -/
def justModelSpec : ChangeSpec := { name := "justModel", fn := fun _ => fun
  | [d1, d2] => { results := [.lit (.bool true)], args := [d1, d2] }
  | _ => none }
def justModelRow : OpenClaim := { program := "ytmkgechdfimfnaa", sum := "4559695e5e1f77a9df0028b5bd5ce67ad2cf81ee7e2284ed15794854c95197c8", func := "sorrel/sorrellaw21.JustModel", spec := "justModel", unfollowed := true, recurses := true, apart := false }
def JustModelSaid : Prop := justModelRow.holds Try.pinned (OpenSpec.ofChange justModelSpec)

/-- ITS FALSE NEIGHBOUR: 'it returns false'. Refute it at one input. -/
def justModelWrong : ChangeSpec := { name := "justModel", fn := fun _ => fun
  | [d1, d2] => { results := [.lit (.bool false)], args := [d1, d2] }
  | _ => none }
def JustModelWrongFalsely : Prop := justModelRow.holds Try.pinned (OpenSpec.ofChange justModelWrong)

/-- 'sorrellaw21.JustSteps': WHATEVER THE INPUT: true; the input reads as it did. -/
def justStepsSpec : ChangeSpec := { name := "justSteps", fn := fun _ => fun
  | [d1, d2] => { results := [.lit (.bool true)], args := [d1, d2] }
  | _ => none }
def justStepsRow : OpenClaim := { program := "ytmkgechdfimfnaa", sum := "4559695e5e1f77a9df0028b5bd5ce67ad2cf81ee7e2284ed15794854c95197c8", func := "sorrel/sorrellaw21.JustSteps", spec := "justSteps", unfollowed := true, recurses := true, apart := false }
def JustStepsSaid : Prop := justStepsRow.holds Try.pinned (OpenSpec.ofChange justStepsSpec)

/-- ITS FALSE NEIGHBOUR: 'it returns false'. Refute it at one input. -/
def justStepsWrong : ChangeSpec := { name := "justSteps", fn := fun _ => fun
  | [d1, d2] => { results := [.lit (.bool false)], args := [d1, d2] }
  | _ => none }
def JustStepsWrongFalsely : Prop := justStepsRow.holds Try.pinned (OpenSpec.ofChange justStepsWrong)

/-- 'sorrellaw21.JustHeld': WHATEVER THE INPUT: true; the input reads as it did. -/
def justHeldSpec : ChangeSpec := { name := "justHeld", fn := fun _ => fun
  | [d1, d2] => { results := [.lit (.bool true)], args := [d1, d2] }
  | _ => none }
def justHeldRow : OpenClaim := { program := "ytmkgechdfimfnaa", sum := "4559695e5e1f77a9df0028b5bd5ce67ad2cf81ee7e2284ed15794854c95197c8", func := "sorrel/sorrellaw21.JustHeld", spec := "justHeld", unfollowed := true, recurses := true, apart := false }
def JustHeldSaid : Prop := justHeldRow.holds Try.pinned (OpenSpec.ofChange justHeldSpec)

/-- ITS FALSE NEIGHBOUR: 'it returns false'. Refute it at one input. -/
def justHeldWrong : ChangeSpec := { name := "justHeld", fn := fun _ => fun
  | [d1, d2] => { results := [.lit (.bool false)], args := [d1, d2] }
  | _ => none }
def JustHeldWrongFalsely : Prop := justHeldRow.holds Try.pinned (OpenSpec.ofChange justHeldWrong)

/-- 'sorrellaw21.JustFor': WHATEVER THE INPUT: true; the input reads as it did. -/
def justForSpec : ChangeSpec := { name := "justFor", fn := fun _ => fun
  | [d1, d2, d3] => { results := [.lit (.bool true)], args := [d1, d2, d3] }
  | _ => none }
def justForRow : OpenClaim := { program := "ytmkgechdfimfnaa", sum := "4559695e5e1f77a9df0028b5bd5ce67ad2cf81ee7e2284ed15794854c95197c8", func := "sorrel/sorrellaw21.JustFor", spec := "justFor", unfollowed := true, recurses := true, apart := false }
def JustForSaid : Prop := justForRow.holds Try.pinned (OpenSpec.ofChange justForSpec)

/-- ITS FALSE NEIGHBOUR: 'it returns false'. Refute it at one input. -/
def justForWrong : ChangeSpec := { name := "justFor", fn := fun _ => fun
  | [d1, d2, d3] => { results := [.lit (.bool false)], args := [d1, d2, d3] }
  | _ => none }
def JustForWrongFalsely : Prop := justForRow.holds Try.pinned (OpenSpec.ofChange justForWrong)

/-- 'sorrellaw21.JustAgain': WHATEVER THE INPUT: true; the input reads as it did. -/
def justAgainSpec : ChangeSpec := { name := "justAgain", fn := fun _ => fun
  | [d1, d2, d3] => { results := [.lit (.bool true)], args := [d1, d2, d3] }
  | _ => none }
def justAgainRow : OpenClaim := { program := "ytmkgechdfimfnaa", sum := "4559695e5e1f77a9df0028b5bd5ce67ad2cf81ee7e2284ed15794854c95197c8", func := "sorrel/sorrellaw21.JustAgain", spec := "justAgain", unfollowed := true, recurses := true, apart := false }
def JustAgainSaid : Prop := justAgainRow.holds Try.pinned (OpenSpec.ofChange justAgainSpec)

/-- ITS FALSE NEIGHBOUR: 'it returns false'. Refute it at one input. -/
def justAgainWrong : ChangeSpec := { name := "justAgain", fn := fun _ => fun
  | [d1, d2, d3] => { results := [.lit (.bool false)], args := [d1, d2, d3] }
  | _ => none }
def JustAgainWrongFalsely : Prop := justAgainRow.holds Try.pinned (OpenSpec.ofChange justAgainWrong)

/- THE SECOND FORM. 'bulk': how many values and letters a reading holds, each counted each time it is reached (what is shared counts as often as it is met; a slice's spare places count too). A statement '..UptoSaid' is the law's where the arguments, and the package variables that the reading takes, are together of bulk at most 1048576: NARROWER than '..Said'. Prove '..Said' where nothing that the law and all that it calls make is longer than what came in: it says more and counts as full. Else prove '..UptoSaid'. A law counts once. -/
mutual
def uptoBulk {H : Type} : DataW H → Nat
  | .lit (.string bytes) => bytes.length + 1
  | .lit _ => 1
  | .nil => 1
  | .ptr d => uptoBulk d + 1
  | .slice elems spare => uptoBulkAll elems + uptoBulkAll spare + 1
  | .agg parts => uptoBulkAll parts + 1
  | .iface _ d => uptoBulk d + 1
  | .map entries => uptoBulkEntries entries + 1
  | .held _ => 1
def uptoBulkAll {H : Type} : List (DataW H) → Nat
  | [] => 0
  | d :: r => uptoBulk d + uptoBulkAll r
def uptoBulkEntries {H : Type} : List (Lit × DataW H) → Nat
  | [] => 0
  | x :: r => uptoBulkEntry x + uptoBulkEntries r
def uptoBulkEntry {H : Type} : Lit × DataW H → Nat
  | (.string bytes, d) => bytes.length + uptoBulk d + 1
  | (_, d) => uptoBulk d + 1
 end
def uptoSmall : (H : Type) → List (DataW H) → Bool := fun _ ds => decide (uptoBulkAll ds ≤ 1048576)
def OpenSpec.upto (s : _root_.Go.ChangeSpec) : _root_.Go.OpenSpec := { _root_.Go.OpenSpec.ofChange s with cond := some uptoSmall }

/-- 'sorrellaw21.JustEnds', WHERE WHAT IT READS IS OF BULK AT MOST 1048576: true; the input reads as it did. -/
def justEndsUptoRow : OpenClaim := { program := "ytmkgechdfimfnaa", sum := "4559695e5e1f77a9df0028b5bd5ce67ad2cf81ee7e2284ed15794854c95197c8", func := "sorrel/sorrellaw21.JustEnds", spec := "justEnds", unfollowed := true, recurses := true, apart := false, narrowed := true }
def JustEndsUptoSaid : Prop := justEndsUptoRow.holds Try.pinned (OpenSpec.upto justEndsSpec)

/-- 'sorrellaw21.JustTells', WHERE WHAT IT READS IS OF BULK AT MOST 1048576: true; the input reads as it did. -/
def justTellsUptoRow : OpenClaim := { program := "ytmkgechdfimfnaa", sum := "4559695e5e1f77a9df0028b5bd5ce67ad2cf81ee7e2284ed15794854c95197c8", func := "sorrel/sorrellaw21.JustTells", spec := "justTells", unfollowed := true, recurses := true, apart := false, narrowed := true }
def JustTellsUptoSaid : Prop := justTellsUptoRow.holds Try.pinned (OpenSpec.upto justTellsSpec)

/-- 'sorrellaw21.JustModel', WHERE WHAT IT READS IS OF BULK AT MOST 1048576: true; the input reads as it did. -/
def justModelUptoRow : OpenClaim := { program := "ytmkgechdfimfnaa", sum := "4559695e5e1f77a9df0028b5bd5ce67ad2cf81ee7e2284ed15794854c95197c8", func := "sorrel/sorrellaw21.JustModel", spec := "justModel", unfollowed := true, recurses := true, apart := false, narrowed := true }
def JustModelUptoSaid : Prop := justModelUptoRow.holds Try.pinned (OpenSpec.upto justModelSpec)

/-- 'sorrellaw21.JustSteps', WHERE WHAT IT READS IS OF BULK AT MOST 1048576: true; the input reads as it did. -/
def justStepsUptoRow : OpenClaim := { program := "ytmkgechdfimfnaa", sum := "4559695e5e1f77a9df0028b5bd5ce67ad2cf81ee7e2284ed15794854c95197c8", func := "sorrel/sorrellaw21.JustSteps", spec := "justSteps", unfollowed := true, recurses := true, apart := false, narrowed := true }
def JustStepsUptoSaid : Prop := justStepsUptoRow.holds Try.pinned (OpenSpec.upto justStepsSpec)

/-- 'sorrellaw21.JustHeld', WHERE WHAT IT READS IS OF BULK AT MOST 1048576: true; the input reads as it did. -/
def justHeldUptoRow : OpenClaim := { program := "ytmkgechdfimfnaa", sum := "4559695e5e1f77a9df0028b5bd5ce67ad2cf81ee7e2284ed15794854c95197c8", func := "sorrel/sorrellaw21.JustHeld", spec := "justHeld", unfollowed := true, recurses := true, apart := false, narrowed := true }
def JustHeldUptoSaid : Prop := justHeldUptoRow.holds Try.pinned (OpenSpec.upto justHeldSpec)

/-- 'sorrellaw21.JustFor', WHERE WHAT IT READS IS OF BULK AT MOST 1048576: true; the input reads as it did. -/
def justForUptoRow : OpenClaim := { program := "ytmkgechdfimfnaa", sum := "4559695e5e1f77a9df0028b5bd5ce67ad2cf81ee7e2284ed15794854c95197c8", func := "sorrel/sorrellaw21.JustFor", spec := "justFor", unfollowed := true, recurses := true, apart := false, narrowed := true }
def JustForUptoSaid : Prop := justForUptoRow.holds Try.pinned (OpenSpec.upto justForSpec)

/-- 'sorrellaw21.JustAgain', WHERE WHAT IT READS IS OF BULK AT MOST 1048576: true; the input reads as it did. -/
def justAgainUptoRow : OpenClaim := { program := "ytmkgechdfimfnaa", sum := "4559695e5e1f77a9df0028b5bd5ce67ad2cf81ee7e2284ed15794854c95197c8", func := "sorrel/sorrellaw21.JustAgain", spec := "justAgain", unfollowed := true, recurses := true, apart := false, narrowed := true }
def JustAgainUptoSaid : Prop := justAgainUptoRow.holds Try.pinned (OpenSpec.upto justAgainSpec)

end Rows
end Go.Proofs.Ytmkgechdfimfnaa
