/-
  NARROWER THAN 'FOR EVERY INPUT', by the rows' own cells (each row's printed sentence says how): PlantEvents: loops · PlantRests: loops · PlantRuns: loops · PlantStills: loops · PlantContinues: loops.
  DERIVED. THE GIVEN ROWS OF THIS SEAT. 6 by the template 'for every input the law returns true; each argument reads behind the call as it read before'; 0 by the template 'total and deterministic' (their statements: YtbhkplbciajikaaGreatTotals.lean).
  GIVEN WITH THE SEED: the statements are not yours to turn. If you find one false, say at which input.
  Laid BY PROGRAM, IN A SANDBOX (cutbox-rows.mjs): the forced cells as the released guide's own fill.sh prints them over the translation d9725016d1450b19… (all of the seat's roots in one cut). By AI agents, Wed Nov 11 2026. No macro, syntax, notation, axiom, sorry.
-/
import Derived.Test.YtbhkplbciajikaaGreatChecked
import GoSem.Claim
import GoSem.ClaimJoined
import GoSem.ClaimMapViews
import Derived.JoinedTies
import Derived.KernelRfl
namespace Go.Proofs.YtbhkplbciajikaaGreat
/- THE CELL 'sum', in the pinned program and in every row, IS THE sha256 OF THE DUMP (.gsa) THAT YtbhkplbciajikaaGreatProg.lean LOADS. Nothing in Lean hashes anything: it is a label: what it is worth is what the hold of that sum in a sandbox is worth. -/
noncomputable def Tryz.pinned : Pinned := { name := "ytbhkplbciajikaagreat", sum := "d9725016d1450b19957c97132f4e45f588fc21efd3a46dadaa1c2fba4b515ce3", checked := Tryz.checked }
namespace Rows
def none {H : Type} : Left H := { results := [], args := [] }

/-- 'pneumaticlaw31.PlantEvents': WHATEVER THE INPUT: true; the input reads as it did. -/
def plantEventsSpec : ChangeSpec := { name := "plantEvents", fn := fun _ => fun
  | [d1, d2] => { results := [.lit (.bool true)], args := [d1, d2] }
  | _ => none }
def plantEventsRow : OpenClaim := { program := "ytbhkplbciajikaagreat", sum := "d9725016d1450b19957c97132f4e45f588fc21efd3a46dadaa1c2fba4b515ce3", func := "pneumatic/pneumaticlaw31.PlantEvents", spec := "plantEvents", unfollowed := true, recurses := true, loops := true, apart := false }
def PlantEventsSaid : Prop := plantEventsRow.holds Tryz.pinned (OpenSpec.ofChange plantEventsSpec)

/-- ITS FALSE NEIGHBOUR: 'it returns false'. Refute it at one input. -/
def plantEventsWrong : ChangeSpec := { name := "plantEvents", fn := fun _ => fun
  | [d1, d2] => { results := [.lit (.bool false)], args := [d1, d2] }
  | _ => none }
def PlantEventsWrongFalsely : Prop := plantEventsRow.holds Tryz.pinned (OpenSpec.ofChange plantEventsWrong)

/-- 'pneumaticlaw31.PlantRests': WHATEVER THE INPUT: true; the input reads as it did. -/
def plantRestsSpec : ChangeSpec := { name := "plantRests", fn := fun _ => fun
  | [d1, d2] => { results := [.lit (.bool true)], args := [d1, d2] }
  | _ => none }
def plantRestsRow : OpenClaim := { program := "ytbhkplbciajikaagreat", sum := "d9725016d1450b19957c97132f4e45f588fc21efd3a46dadaa1c2fba4b515ce3", func := "pneumatic/pneumaticlaw31.PlantRests", spec := "plantRests", unfollowed := true, recurses := true, loops := true, apart := false }
def PlantRestsSaid : Prop := plantRestsRow.holds Tryz.pinned (OpenSpec.ofChange plantRestsSpec)

/-- ITS FALSE NEIGHBOUR: 'it returns false'. Refute it at one input. -/
def plantRestsWrong : ChangeSpec := { name := "plantRests", fn := fun _ => fun
  | [d1, d2] => { results := [.lit (.bool false)], args := [d1, d2] }
  | _ => none }
def PlantRestsWrongFalsely : Prop := plantRestsRow.holds Tryz.pinned (OpenSpec.ofChange plantRestsWrong)

/-- 'pneumaticlaw31.PlantRuns': WHATEVER THE INPUT: true; the input reads as it did. -/
def plantRunsSpec : ChangeSpec := { name := "plantRuns", fn := fun _ => fun
  | [d1, d2, d3] => { results := [.lit (.bool true)], args := [d1, d2, d3] }
  | _ => none }
def plantRunsRow : OpenClaim := { program := "ytbhkplbciajikaagreat", sum := "d9725016d1450b19957c97132f4e45f588fc21efd3a46dadaa1c2fba4b515ce3", func := "pneumatic/pneumaticlaw31.PlantRuns", spec := "plantRuns", unfollowed := true, recurses := true, loops := true, apart := false }
def PlantRunsSaid : Prop := plantRunsRow.holds Tryz.pinned (OpenSpec.ofChange plantRunsSpec)

/-- ITS FALSE NEIGHBOUR: 'it returns false'. Refute it at one input. -/
def plantRunsWrong : ChangeSpec := { name := "plantRuns", fn := fun _ => fun
  | [d1, d2, d3] => { results := [.lit (.bool false)], args := [d1, d2, d3] }
  | _ => none }
def PlantRunsWrongFalsely : Prop := plantRunsRow.holds Tryz.pinned (OpenSpec.ofChange plantRunsWrong)

/-- 'pneumaticlaw31.PlantStills': WHATEVER THE INPUT: true; the input reads as it did. -/
def plantStillsSpec : ChangeSpec := { name := "plantStills", fn := fun _ => fun
  | [d1, d2] => { results := [.lit (.bool true)], args := [d1, d2] }
  | _ => none }
def plantStillsRow : OpenClaim := { program := "ytbhkplbciajikaagreat", sum := "d9725016d1450b19957c97132f4e45f588fc21efd3a46dadaa1c2fba4b515ce3", func := "pneumatic/pneumaticlaw31.PlantStills", spec := "plantStills", unfollowed := true, recurses := true, loops := true, apart := false }
def PlantStillsSaid : Prop := plantStillsRow.holds Tryz.pinned (OpenSpec.ofChange plantStillsSpec)

/-- ITS FALSE NEIGHBOUR: 'it returns false'. Refute it at one input. -/
def plantStillsWrong : ChangeSpec := { name := "plantStills", fn := fun _ => fun
  | [d1, d2] => { results := [.lit (.bool false)], args := [d1, d2] }
  | _ => none }
def PlantStillsWrongFalsely : Prop := plantStillsRow.holds Tryz.pinned (OpenSpec.ofChange plantStillsWrong)

/-- 'pneumaticlaw31.PlantContinues': WHATEVER THE INPUT: true; the input reads as it did. -/
def plantContinuesSpec : ChangeSpec := { name := "plantContinues", fn := fun _ => fun
  | [d1, d2, d3] => { results := [.lit (.bool true)], args := [d1, d2, d3] }
  | _ => none }
def plantContinuesRow : OpenClaim := { program := "ytbhkplbciajikaagreat", sum := "d9725016d1450b19957c97132f4e45f588fc21efd3a46dadaa1c2fba4b515ce3", func := "pneumatic/pneumaticlaw31.PlantContinues", spec := "plantContinues", unfollowed := true, recurses := true, loops := true, apart := false }
def PlantContinuesSaid : Prop := plantContinuesRow.holds Tryz.pinned (OpenSpec.ofChange plantContinuesSpec)

/-- ITS FALSE NEIGHBOUR: 'it returns false'. Refute it at one input. -/
def plantContinuesWrong : ChangeSpec := { name := "plantContinues", fn := fun _ => fun
  | [d1, d2, d3] => { results := [.lit (.bool false)], args := [d1, d2, d3] }
  | _ => none }
def PlantContinuesWrongFalsely : Prop := plantContinuesRow.holds Tryz.pinned (OpenSpec.ofChange plantContinuesWrong)

/-- 'pneumaticlaw31.PlantChecks': WHATEVER THE INPUT: true; the input reads as it did. -/
def plantChecksSpec : ChangeSpec := { name := "plantChecks", fn := fun _ => fun
  | [d1, d2, d3] => { results := [.lit (.bool true)], args := [d1, d2, d3] }
  | _ => none }
def plantChecksRow : OpenClaim := { program := "ytbhkplbciajikaagreat", sum := "d9725016d1450b19957c97132f4e45f588fc21efd3a46dadaa1c2fba4b515ce3", func := "pneumatic/pneumaticlaw31.PlantChecks", spec := "plantChecks", unfollowed := true, recurses := true, apart := false }
def PlantChecksSaid : Prop := plantChecksRow.holds Tryz.pinned (OpenSpec.ofChange plantChecksSpec)

/-- ITS FALSE NEIGHBOUR: 'it returns false'. Refute it at one input. -/
def plantChecksWrong : ChangeSpec := { name := "plantChecks", fn := fun _ => fun
  | [d1, d2, d3] => { results := [.lit (.bool false)], args := [d1, d2, d3] }
  | _ => none }
def PlantChecksWrongFalsely : Prop := plantChecksRow.holds Tryz.pinned (OpenSpec.ofChange plantChecksWrong)

/- THE SECOND FORM. 'bulk': how many values and letters a reading holds, each counted each time it is reached (what is shared counts as often as it is met; a slice's spare places count too). A statement '..UptoSaid' is the law's where the arguments, and the package variables that the reading takes, are together of bulk at most 1048576: NARROWER than '..Said'. Prove '..Said' where nothing that the law and all that it calls make is longer than what came in: it says more and counts as full. Else prove '..UptoSaid'. A law counts once. -/
mutual
def uptoBulk {H : Type} : DataW H → Nat
  | .lit (.string bytes) => bytes.length + 1
  | .lit _ => 1
  | .nil => 1
  | .ptr d => uptoBulk d + 1
  | .slice elems spare => uptoBulkAll elems + uptoBulkAll spare + 1
  | .agg parts => uptoBulkAll parts + 1
  | .iface _ d => uptoBulk d + 1
  | .map entries => uptoBulkEntries entries + 1
  | .held _ => 1
def uptoBulkAll {H : Type} : List (DataW H) → Nat
  | [] => 0
  | d :: r => uptoBulk d + uptoBulkAll r
def uptoBulkEntries {H : Type} : List (Lit × DataW H) → Nat
  | [] => 0
  | x :: r => uptoBulkEntry x + uptoBulkEntries r
def uptoBulkEntry {H : Type} : Lit × DataW H → Nat
  | (.string bytes, d) => bytes.length + uptoBulk d + 1
  | (_, d) => uptoBulk d + 1
 end
def uptoSmall : (H : Type) → List (DataW H) → Bool := fun _ ds => decide (uptoBulkAll ds ≤ 1048576)
def OpenSpec.upto (s : _root_.Go.ChangeSpec) : _root_.Go.OpenSpec := { _root_.Go.OpenSpec.ofChange s with cond := some uptoSmall }

/-- 'pneumaticlaw31.PlantEvents', WHERE WHAT IT READS IS OF BULK AT MOST 1048576: true; the input reads as it did. -/
def plantEventsUptoRow : OpenClaim := { program := "ytbhkplbciajikaagreat", sum := "d9725016d1450b19957c97132f4e45f588fc21efd3a46dadaa1c2fba4b515ce3", func := "pneumatic/pneumaticlaw31.PlantEvents", spec := "plantEvents", unfollowed := true, recurses := true, loops := true, apart := false, narrowed := true }
def PlantEventsUptoSaid : Prop := plantEventsUptoRow.holds Tryz.pinned (OpenSpec.upto plantEventsSpec)

/-- 'pneumaticlaw31.PlantRests', WHERE WHAT IT READS IS OF BULK AT MOST 1048576: true; the input reads as it did. -/
def plantRestsUptoRow : OpenClaim := { program := "ytbhkplbciajikaagreat", sum := "d9725016d1450b19957c97132f4e45f588fc21efd3a46dadaa1c2fba4b515ce3", func := "pneumatic/pneumaticlaw31.PlantRests", spec := "plantRests", unfollowed := true, recurses := true, loops := true, apart := false, narrowed := true }
def PlantRestsUptoSaid : Prop := plantRestsUptoRow.holds Tryz.pinned (OpenSpec.upto plantRestsSpec)

/-- 'pneumaticlaw31.PlantRuns', WHERE WHAT IT READS IS OF BULK AT MOST 1048576: true; the input reads as it did. -/
def plantRunsUptoRow : OpenClaim := { program := "ytbhkplbciajikaagreat", sum := "d9725016d1450b19957c97132f4e45f588fc21efd3a46dadaa1c2fba4b515ce3", func := "pneumatic/pneumaticlaw31.PlantRuns", spec := "plantRuns", unfollowed := true, recurses := true, loops := true, apart := false, narrowed := true }
def PlantRunsUptoSaid : Prop := plantRunsUptoRow.holds Tryz.pinned (OpenSpec.upto plantRunsSpec)

/-- 'pneumaticlaw31.PlantStills', WHERE WHAT IT READS IS OF BULK AT MOST 1048576: true; the input reads as it did. -/
def plantStillsUptoRow : OpenClaim := { program := "ytbhkplbciajikaagreat", sum := "d9725016d1450b19957c97132f4e45f588fc21efd3a46dadaa1c2fba4b515ce3", func := "pneumatic/pneumaticlaw31.PlantStills", spec := "plantStills", unfollowed := true, recurses := true, loops := true, apart := false, narrowed := true }
def PlantStillsUptoSaid : Prop := plantStillsUptoRow.holds Tryz.pinned (OpenSpec.upto plantStillsSpec)

/-- 'pneumaticlaw31.PlantContinues', WHERE WHAT IT READS IS OF BULK AT MOST 1048576: true; the input reads as it did. -/
def plantContinuesUptoRow : OpenClaim := { program := "ytbhkplbciajikaagreat", sum := "d9725016d1450b19957c97132f4e45f588fc21efd3a46dadaa1c2fba4b515ce3", func := "pneumatic/pneumaticlaw31.PlantContinues", spec := "plantContinues", unfollowed := true, recurses := true, loops := true, apart := false, narrowed := true }
def PlantContinuesUptoSaid : Prop := plantContinuesUptoRow.holds Tryz.pinned (OpenSpec.upto plantContinuesSpec)

/-- 'pneumaticlaw31.PlantChecks', WHERE WHAT IT READS IS OF BULK AT MOST 1048576: true; the input reads as it did. -/
def plantChecksUptoRow : OpenClaim := { program := "ytbhkplbciajikaagreat", sum := "d9725016d1450b19957c97132f4e45f588fc21efd3a46dadaa1c2fba4b515ce3", func := "pneumatic/pneumaticlaw31.PlantChecks", spec := "plantChecks", unfollowed := true, recurses := true, apart := false, narrowed := true }
def PlantChecksUptoSaid : Prop := plantChecksUptoRow.holds Tryz.pinned (OpenSpec.upto plantChecksSpec)

end Rows
end Go.Proofs.YtbhkplbciajikaaGreat
