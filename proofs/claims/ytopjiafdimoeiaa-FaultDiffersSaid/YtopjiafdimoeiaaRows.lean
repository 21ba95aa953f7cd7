/-
  NARROWER THAN 'FOR EVERY INPUT', by the rows' own cells (each row's printed sentence says how): FaultLists: loops · FaultTexts: loops · FaultReads: loops · FaultDiffers: loops.
  DERIVED. THE GIVEN ROWS OF THIS SEAT. 10 by the template 'for every input the law returns true; each argument reads behind the call as it read before'; 0 by the template 'total and deterministic' (their statements: YtopjiafdimoeiaaTotals.lean).
  GIVEN WITH THE SEED: the statements are not yours to turn. If you find one false, say at which input.
  Laid BY PROGRAM, IN A SANDBOX (cutbox-rows.mjs): the forced cells as the released guide's own fill.sh prints them over the translation 7b078ddf449f90b9… (all of the seat's roots in one cut). By AI agents, Wed Nov 11 2026. No macro, syntax, notation, axiom, sorry.
-/
import Derived.Test.YtopjiafdimoeiaaChecked
import GoSem.Claim
import GoSem.ClaimJoined
import GoSem.ClaimMapViews
import Derived.JoinedTies
import Derived.KernelRfl
namespace Go.Proofs.Ytopjiafdimoeiaa
/- THE CELL 'sum', in the pinned program and in every row, IS THE sha256 OF THE DUMP (.gsa) THAT YtopjiafdimoeiaaProg.lean LOADS. Nothing in Lean hashes anything: it is a label: what it is worth is what the hold of that sum in a sandbox is worth. -/
noncomputable def Try.pinned : Pinned := { name := "ytopjiafdimoeiaa", sum := "7b078ddf449f90b97e1e7e3856b4361658c3d23a7bb1c268c7e45004cf94b4e1", checked := Try.checked }
namespace Rows
def none {H : Type} : Left H := { results := [], args := [] }

/-- 'pneumaticlaw51.FaultLists': WHATEVER THE INPUT: true; the input reads as it did. -/
def faultListsSpec : ChangeSpec := { name := "faultLists", fn := fun _ => fun
  | [d1, d2] => { results := [.lit (.bool true)], args := [d1, d2] }
  | _ => none }
def faultListsRow : OpenClaim := { program := "ytopjiafdimoeiaa", sum := "7b078ddf449f90b97e1e7e3856b4361658c3d23a7bb1c268c7e45004cf94b4e1", func := "pneumatic/pneumaticlaw51.FaultLists", spec := "faultLists", unfollowed := true, recurses := true, loops := true, apart := false }
def FaultListsSaid : Prop := faultListsRow.holds Try.pinned (OpenSpec.ofChange faultListsSpec)

/-- ITS FALSE NEIGHBOUR: 'it returns false'. Refute it at one input. -/
def faultListsWrong : ChangeSpec := { name := "faultLists", fn := fun _ => fun
  | [d1, d2] => { results := [.lit (.bool false)], args := [d1, d2] }
  | _ => none }
def FaultListsWrongFalsely : Prop := faultListsRow.holds Try.pinned (OpenSpec.ofChange faultListsWrong)

/-- 'pneumaticlaw51.FaultTexts': WHATEVER THE INPUT: true; the input reads as it did. -/
def faultTextsSpec : ChangeSpec := { name := "faultTexts", fn := fun _ => fun
  | [d1, d2, d3] => { results := [.lit (.bool true)], args := [d1, d2, d3] }
  | _ => none }
def faultTextsRow : OpenClaim := { program := "ytopjiafdimoeiaa", sum := "7b078ddf449f90b97e1e7e3856b4361658c3d23a7bb1c268c7e45004cf94b4e1", func := "pneumatic/pneumaticlaw51.FaultTexts", spec := "faultTexts", unfollowed := true, recurses := true, loops := true, apart := false }
def FaultTextsSaid : Prop := faultTextsRow.holds Try.pinned (OpenSpec.ofChange faultTextsSpec)

/-- ITS FALSE NEIGHBOUR: 'it returns false'. Refute it at one input. -/
def faultTextsWrong : ChangeSpec := { name := "faultTexts", fn := fun _ => fun
  | [d1, d2, d3] => { results := [.lit (.bool false)], args := [d1, d2, d3] }
  | _ => none }
def FaultTextsWrongFalsely : Prop := faultTextsRow.holds Try.pinned (OpenSpec.ofChange faultTextsWrong)

/-- 'pneumaticlaw51.FaultReads': WHATEVER THE INPUT: true; the input reads as it did. -/
def faultReadsSpec : ChangeSpec := { name := "faultReads", fn := fun _ => fun
  | [d1, d2] => { results := [.lit (.bool true)], args := [d1, d2] }
  | _ => none }
def faultReadsRow : OpenClaim := { program := "ytopjiafdimoeiaa", sum := "7b078ddf449f90b97e1e7e3856b4361658c3d23a7bb1c268c7e45004cf94b4e1", func := "pneumatic/pneumaticlaw51.FaultReads", spec := "faultReads", unfollowed := true, recurses := true, loops := true, apart := false }
def FaultReadsSaid : Prop := faultReadsRow.holds Try.pinned (OpenSpec.ofChange faultReadsSpec)

/-- ITS FALSE NEIGHBOUR: 'it returns false'. Refute it at one input. -/
def faultReadsWrong : ChangeSpec := { name := "faultReads", fn := fun _ => fun
  | [d1, d2] => { results := [.lit (.bool false)], args := [d1, d2] }
  | _ => none }
def FaultReadsWrongFalsely : Prop := faultReadsRow.holds Try.pinned (OpenSpec.ofChange faultReadsWrong)

/-- 'pneumaticlaw51.FaultDiffers': WHATEVER THE INPUT: true; the input reads as it did. -/
def faultDiffersSpec : ChangeSpec := { name := "faultDiffers", fn := fun _ => fun
  | [d1, d2, d3] => { results := [.lit (.bool true)], args := [d1, d2, d3] }
  | _ => none }
def faultDiffersRow : OpenClaim := { program := "ytopjiafdimoeiaa", sum := "7b078ddf449f90b97e1e7e3856b4361658c3d23a7bb1c268c7e45004cf94b4e1", func := "pneumatic/pneumaticlaw51.FaultDiffers", spec := "faultDiffers", unfollowed := true, recurses := true, loops := true, apart := false }
def FaultDiffersSaid : Prop := faultDiffersRow.holds Try.pinned (OpenSpec.ofChange faultDiffersSpec)

/-- ITS FALSE NEIGHBOUR: 'it returns false'. Refute it at one input. -/
def faultDiffersWrong : ChangeSpec := { name := "faultDiffers", fn := fun _ => fun
  | [d1, d2, d3] => { results := [.lit (.bool false)], args := [d1, d2, d3] }
  | _ => none }
def FaultDiffersWrongFalsely : Prop := faultDiffersRow.holds Try.pinned (OpenSpec.ofChange faultDiffersWrong)

/-- 'pneumaticlaw42.TraceMoves': WHATEVER THE INPUT: true; the input reads as it did. -/
def traceMovesSpec : ChangeSpec := { name := "traceMoves", fn := fun _ => fun
  | [d1, d2] => { results := [.lit (.bool true)], args := [d1, d2] }
  | _ => none }
def traceMovesRow : OpenClaim := { program := "ytopjiafdimoeiaa", sum := "7b078ddf449f90b97e1e7e3856b4361658c3d23a7bb1c268c7e45004cf94b4e1", func := "pneumatic/pneumaticlaw42.TraceMoves", spec := "traceMoves", unfollowed := true, recurses := true, apart := false }
def TraceMovesSaid : Prop := traceMovesRow.holds Try.pinned (OpenSpec.ofChange traceMovesSpec)

/-- ITS FALSE NEIGHBOUR: 'it returns false'. Refute it at one input. -/
def traceMovesWrong : ChangeSpec := { name := "traceMoves", fn := fun _ => fun
  | [d1, d2] => { results := [.lit (.bool false)], args := [d1, d2] }
  | _ => none }
def TraceMovesWrongFalsely : Prop := traceMovesRow.holds Try.pinned (OpenSpec.ofChange traceMovesWrong)

/-- 'pneumaticlaw42.TraceNext': WHATEVER THE INPUT: true; the input reads as it did. -/
def traceNextSpec : ChangeSpec := { name := "traceNext", fn := fun _ => fun
  | [d1, d2, d3] => { results := [.lit (.bool true)], args := [d1, d2, d3] }
  | _ => none }
def traceNextRow : OpenClaim := { program := "ytopjiafdimoeiaa", sum := "7b078ddf449f90b97e1e7e3856b4361658c3d23a7bb1c268c7e45004cf94b4e1", func := "pneumatic/pneumaticlaw42.TraceNext", spec := "traceNext", unfollowed := true, recurses := true, apart := false }
def TraceNextSaid : Prop := traceNextRow.holds Try.pinned (OpenSpec.ofChange traceNextSpec)

/-- ITS FALSE NEIGHBOUR: 'it returns false'. Refute it at one input. -/
def traceNextWrong : ChangeSpec := { name := "traceNext", fn := fun _ => fun
  | [d1, d2, d3] => { results := [.lit (.bool false)], args := [d1, d2, d3] }
  | _ => none }
def TraceNextWrongFalsely : Prop := traceNextRow.holds Try.pinned (OpenSpec.ofChange traceNextWrong)

/-- 'pneumaticlaw42.TraceBegins': WHATEVER THE INPUT: true; the input reads as it did. -/
def traceBeginsSpec : ChangeSpec := { name := "traceBegins", fn := fun _ => fun
  | [d1, d2] => { results := [.lit (.bool true)], args := [d1, d2] }
  | _ => none }
def traceBeginsRow : OpenClaim := { program := "ytopjiafdimoeiaa", sum := "7b078ddf449f90b97e1e7e3856b4361658c3d23a7bb1c268c7e45004cf94b4e1", func := "pneumatic/pneumaticlaw42.TraceBegins", spec := "traceBegins", unfollowed := true, recurses := true, apart := false }
def TraceBeginsSaid : Prop := traceBeginsRow.holds Try.pinned (OpenSpec.ofChange traceBeginsSpec)

/-- ITS FALSE NEIGHBOUR: 'it returns false'. Refute it at one input. -/
def traceBeginsWrong : ChangeSpec := { name := "traceBegins", fn := fun _ => fun
  | [d1, d2] => { results := [.lit (.bool false)], args := [d1, d2] }
  | _ => none }
def TraceBeginsWrongFalsely : Prop := traceBeginsRow.holds Try.pinned (OpenSpec.ofChange traceBeginsWrong)

/-- 'pneumaticlaw42.TraceForms': WHATEVER THE INPUT: true; the input reads as it did. -/
def traceFormsSpec : ChangeSpec := { name := "traceForms", fn := fun _ => fun
  | [d1, d2, d3] => { results := [.lit (.bool true)], args := [d1, d2, d3] }
  | _ => none }
def traceFormsRow : OpenClaim := { program := "ytopjiafdimoeiaa", sum := "7b078ddf449f90b97e1e7e3856b4361658c3d23a7bb1c268c7e45004cf94b4e1", func := "pneumatic/pneumaticlaw42.TraceForms", spec := "traceForms", unfollowed := true, recurses := true, apart := false }
def TraceFormsSaid : Prop := traceFormsRow.holds Try.pinned (OpenSpec.ofChange traceFormsSpec)

/-- ITS FALSE NEIGHBOUR: 'it returns false'. Refute it at one input. -/
def traceFormsWrong : ChangeSpec := { name := "traceForms", fn := fun _ => fun
  | [d1, d2, d3] => { results := [.lit (.bool false)], args := [d1, d2, d3] }
  | _ => none }
def TraceFormsWrongFalsely : Prop := traceFormsRow.holds Try.pinned (OpenSpec.ofChange traceFormsWrong)

/-- 'pneumaticlaw42.TraceSwaps': WHATEVER THE INPUT: true; the input reads as it did. -/
def traceSwapsSpec : ChangeSpec := { name := "traceSwaps", fn := fun _ => fun
  | [d1, d2, d3] => { results := [.lit (.bool true)], args := [d1, d2, d3] }
  | _ => none }
def traceSwapsRow : OpenClaim := { program := "ytopjiafdimoeiaa", sum := "7b078ddf449f90b97e1e7e3856b4361658c3d23a7bb1c268c7e45004cf94b4e1", func := "pneumatic/pneumaticlaw42.TraceSwaps", spec := "traceSwaps", unfollowed := true, recurses := true, apart := false }
def TraceSwapsSaid : Prop := traceSwapsRow.holds Try.pinned (OpenSpec.ofChange traceSwapsSpec)

/-- ITS FALSE NEIGHBOUR: 'it returns false'. Refute it at one input. -/
def traceSwapsWrong : ChangeSpec := { name := "traceSwaps", fn := fun _ => fun
  | [d1, d2, d3] => { results := [.lit (.bool false)], args := [d1, d2, d3] }
  | _ => none }
def TraceSwapsWrongFalsely : Prop := traceSwapsRow.holds Try.pinned (OpenSpec.ofChange traceSwapsWrong)

/-- 'pneumaticlaw42.TraceRepeats': WHATEVER THE INPUT: true; the input reads as it did. -/
def traceRepeatsSpec : ChangeSpec := { name := "traceRepeats", fn := fun _ => fun
  | [d1, d2, d3] => { results := [.lit (.bool true)], args := [d1, d2, d3] }
  | _ => none }
def traceRepeatsRow : OpenClaim := { program := "ytopjiafdimoeiaa", sum := "7b078ddf449f90b97e1e7e3856b4361658c3d23a7bb1c268c7e45004cf94b4e1", func := "pneumatic/pneumaticlaw42.TraceRepeats", spec := "traceRepeats", unfollowed := true, recurses := true, apart := false }
def TraceRepeatsSaid : Prop := traceRepeatsRow.holds Try.pinned (OpenSpec.ofChange traceRepeatsSpec)

/-- ITS FALSE NEIGHBOUR: 'it returns false'. Refute it at one input. -/
def traceRepeatsWrong : ChangeSpec := { name := "traceRepeats", fn := fun _ => fun
  | [d1, d2, d3] => { results := [.lit (.bool false)], args := [d1, d2, d3] }
  | _ => none }
def TraceRepeatsWrongFalsely : Prop := traceRepeatsRow.holds Try.pinned (OpenSpec.ofChange traceRepeatsWrong)

/- THE SECOND FORM. 'bulk': how many values and letters a reading holds, each counted each time it is reached (what is shared counts as often as it is met; a slice's spare places count too). A statement '..UptoSaid' is the law's where the arguments, and the package variables that the reading takes, are together of bulk at most 1048576: NARROWER than '..Said'. Prove '..Said' where nothing that the law and all that it calls make is longer than what came in: it says more and counts as full. Else prove '..UptoSaid'. A law counts once. -/
mutual
def uptoBulk {H : Type} : DataW H → Nat
  | .lit (.string bytes) => bytes.length + 1
  | .lit _ => 1
  | .nil => 1
  | .ptr d => uptoBulk d + 1
  | .slice elems spare => uptoBulkAll elems + uptoBulkAll spare + 1
  | .agg parts => uptoBulkAll parts + 1
  | .iface _ d => uptoBulk d + 1
  | .map entries => uptoBulkEntries entries + 1
  | .held _ => 1
def uptoBulkAll {H : Type} : List (DataW H) → Nat
  | [] => 0
  | d :: r => uptoBulk d + uptoBulkAll r
def uptoBulkEntries {H : Type} : List (Lit × DataW H) → Nat
  | [] => 0
  | x :: r => uptoBulkEntry x + uptoBulkEntries r
def uptoBulkEntry {H : Type} : Lit × DataW H → Nat
  | (.string bytes, d) => bytes.length + uptoBulk d + 1
  | (_, d) => uptoBulk d + 1
 end
def uptoSmall : (H : Type) → List (DataW H) → Bool := fun _ ds => decide (uptoBulkAll ds ≤ 1048576)
def OpenSpec.upto (s : _root_.Go.ChangeSpec) : _root_.Go.OpenSpec := { _root_.Go.OpenSpec.ofChange s with cond := some uptoSmall }

/-- 'pneumaticlaw51.FaultLists', WHERE WHAT IT READS IS OF BULK AT MOST 1048576: true; the input reads as it did. -/
def faultListsUptoRow : OpenClaim := { program := "ytopjiafdimoeiaa", sum := "7b078ddf449f90b97e1e7e3856b4361658c3d23a7bb1c268c7e45004cf94b4e1", func := "pneumatic/pneumaticlaw51.FaultLists", spec := "faultLists", unfollowed := true, recurses := true, loops := true, apart := false, narrowed := true }
def FaultListsUptoSaid : Prop := faultListsUptoRow.holds Try.pinned (OpenSpec.upto faultListsSpec)

/-- 'pneumaticlaw51.FaultTexts', WHERE WHAT IT READS IS OF BULK AT MOST 1048576: true; the input reads as it did. -/
def faultTextsUptoRow : OpenClaim := { program := "ytopjiafdimoeiaa", sum := "7b078ddf449f90b97e1e7e3856b4361658c3d23a7bb1c268c7e45004cf94b4e1", func := "pneumatic/pneumaticlaw51.FaultTexts", spec := "faultTexts", unfollowed := true, recurses := true, loops := true, apart := false, narrowed := true }
def FaultTextsUptoSaid : Prop := faultTextsUptoRow.holds Try.pinned (OpenSpec.upto faultTextsSpec)

/-- 'pneumaticlaw51.FaultReads', WHERE WHAT IT READS IS OF BULK AT MOST 1048576: true; the input reads as it did. -/
def faultReadsUptoRow : OpenClaim := { program := "ytopjiafdimoeiaa", sum := "7b078ddf449f90b97e1e7e3856b4361658c3d23a7bb1c268c7e45004cf94b4e1", func := "pneumatic/pneumaticlaw51.FaultReads", spec := "faultReads", unfollowed := true, recurses := true, loops := true, apart := false, narrowed := true }
def FaultReadsUptoSaid : Prop := faultReadsUptoRow.holds Try.pinned (OpenSpec.upto faultReadsSpec)

/-- 'pneumaticlaw51.FaultDiffers', WHERE WHAT IT READS IS OF BULK AT MOST 1048576: true; the input reads as it did. -/
def faultDiffersUptoRow : OpenClaim := { program := "ytopjiafdimoeiaa", sum := "7b078ddf449f90b97e1e7e3856b4361658c3d23a7bb1c268c7e45004cf94b4e1", func := "pneumatic/pneumaticlaw51.FaultDiffers", spec := "faultDiffers", unfollowed := true, recurses := true, loops := true, apart := false, narrowed := true }
def FaultDiffersUptoSaid : Prop := faultDiffersUptoRow.holds Try.pinned (OpenSpec.upto faultDiffersSpec)

/-- 'pneumaticlaw42.TraceMoves', WHERE WHAT IT READS IS OF BULK AT MOST 1048576: true; the input reads as it did. -/
def traceMovesUptoRow : OpenClaim := { program := "ytopjiafdimoeiaa", sum := "7b078ddf449f90b97e1e7e3856b4361658c3d23a7bb1c268c7e45004cf94b4e1", func := "pneumatic/pneumaticlaw42.TraceMoves", spec := "traceMoves", unfollowed := true, recurses := true, apart := false, narrowed := true }
def TraceMovesUptoSaid : Prop := traceMovesUptoRow.holds Try.pinned (OpenSpec.upto traceMovesSpec)

/-- 'pneumaticlaw42.TraceNext', WHERE WHAT IT READS IS OF BULK AT MOST 1048576: true; the input reads as it did. -/
def traceNextUptoRow : OpenClaim := { program := "ytopjiafdimoeiaa", sum := "7b078ddf449f90b97e1e7e3856b4361658c3d23a7bb1c268c7e45004cf94b4e1", func := "pneumatic/pneumaticlaw42.TraceNext", spec := "traceNext", unfollowed := true, recurses := true, apart := false, narrowed := true }
def TraceNextUptoSaid : Prop := traceNextUptoRow.holds Try.pinned (OpenSpec.upto traceNextSpec)

/-- 'pneumaticlaw42.TraceBegins', WHERE WHAT IT READS IS OF BULK AT MOST 1048576: true; the input reads as it did. -/
def traceBeginsUptoRow : OpenClaim := { program := "ytopjiafdimoeiaa", sum := "7b078ddf449f90b97e1e7e3856b4361658c3d23a7bb1c268c7e45004cf94b4e1", func := "pneumatic/pneumaticlaw42.TraceBegins", spec := "traceBegins", unfollowed := true, recurses := true, apart := false, narrowed := true }
def TraceBeginsUptoSaid : Prop := traceBeginsUptoRow.holds Try.pinned (OpenSpec.upto traceBeginsSpec)

/-- 'pneumaticlaw42.TraceForms', WHERE WHAT IT READS IS OF BULK AT MOST 1048576: true; the input reads as it did. -/
def traceFormsUptoRow : OpenClaim := { program := "ytopjiafdimoeiaa", sum := "7b078ddf449f90b97e1e7e3856b4361658c3d23a7bb1c268c7e45004cf94b4e1", func := "pneumatic/pneumaticlaw42.TraceForms", spec := "traceForms", unfollowed := true, recurses := true, apart := false, narrowed := true }
def TraceFormsUptoSaid : Prop := traceFormsUptoRow.holds Try.pinned (OpenSpec.upto traceFormsSpec)

/-- 'pneumaticlaw42.TraceSwaps', WHERE WHAT IT READS IS OF BULK AT MOST 1048576: true; the input reads as it did. -/
def traceSwapsUptoRow : OpenClaim := { program := "ytopjiafdimoeiaa", sum := "7b078ddf449f90b97e1e7e3856b4361658c3d23a7bb1c268c7e45004cf94b4e1", func := "pneumatic/pneumaticlaw42.TraceSwaps", spec := "traceSwaps", unfollowed := true, recurses := true, apart := false, narrowed := true }
def TraceSwapsUptoSaid : Prop := traceSwapsUptoRow.holds Try.pinned (OpenSpec.upto traceSwapsSpec)

/-- 'pneumaticlaw42.TraceRepeats', WHERE WHAT IT READS IS OF BULK AT MOST 1048576: true; the input reads as it did. -/
def traceRepeatsUptoRow : OpenClaim := { program := "ytopjiafdimoeiaa", sum := "7b078ddf449f90b97e1e7e3856b4361658c3d23a7bb1c268c7e45004cf94b4e1", func := "pneumatic/pneumaticlaw42.TraceRepeats", spec := "traceRepeats", unfollowed := true, recurses := true, apart := false, narrowed := true }
def TraceRepeatsUptoSaid : Prop := traceRepeatsUptoRow.holds Try.pinned (OpenSpec.upto traceRepeatsSpec)

end Rows
end Go.Proofs.Ytopjiafdimoeiaa
