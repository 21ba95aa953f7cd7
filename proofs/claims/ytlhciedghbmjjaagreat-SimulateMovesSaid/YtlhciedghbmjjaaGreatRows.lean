/-
  NARROWER THAN 'FOR EVERY INPUT', by the rows' own cells (each row's printed sentence says how): SimulateChecks: loops · SimulateMoves: loops · SimulateTakes: loops · SimulateBegins: loops · SimulateLeads: loops.
  DERIVED. THE GIVEN ROWS OF THIS SEAT. 6 by the template 'for every input the law returns true; each argument reads behind the call as it read before'; 0 by the template 'total and deterministic' (their statements: YtlhciedghbmjjaaGreatTotals.lean).
  GIVEN WITH THE SEED: the statements are not yours to turn. If you find one false, say at which input.
  Laid BY PROGRAM, IN A SANDBOX (cutbox-rows.mjs): the forced cells as the released guide's own fill.sh prints them over the translation 940a51ae39fa02ee… (all of the seat's roots in one cut). By AI agents, Wed Nov 11 2026. No macro, syntax, notation, axiom, sorry.
-/
import Derived.Test.YtlhciedghbmjjaaGreatChecked
import GoSem.Claim
import GoSem.ClaimJoined
import GoSem.ClaimMapViews
import Derived.JoinedTies
import Derived.KernelRfl
namespace Go.Proofs.YtlhciedghbmjjaaGreat
/- THE CELL 'sum', in the pinned program and in every row, IS THE sha256 OF THE DUMP (.gsa) THAT YtlhciedghbmjjaaGreatProg.lean LOADS. Nothing in Lean hashes anything: it is a label: what it is worth is what the hold of that sum in a sandbox is worth. -/
noncomputable def Tryz.pinned : Pinned := { name := "ytlhciedghbmjjaagreat", sum := "940a51ae39fa02ee41067c73a79caebf0adfafb01e05a9499ba4f57e3caed89d", checked := Tryz.checked }
namespace Rows
def none {H : Type} : Left H := { results := [], args := [] }

/-- 'pneumaticlaw39.SimulateChecks': WHATEVER THE INPUT: true; the input reads as it did. -/
def simulateChecksSpec : ChangeSpec := { name := "simulateChecks", fn := fun _ => fun
  | [d1, d2, d3] => { results := [.lit (.bool true)], args := [d1, d2, d3] }
  | _ => none }
def simulateChecksRow : OpenClaim := { program := "ytlhciedghbmjjaagreat", sum := "940a51ae39fa02ee41067c73a79caebf0adfafb01e05a9499ba4f57e3caed89d", func := "pneumatic/pneumaticlaw39.SimulateChecks", spec := "simulateChecks", unfollowed := true, recurses := true, loops := true, apart := false }
def SimulateChecksSaid : Prop := simulateChecksRow.holds Tryz.pinned (OpenSpec.ofChange simulateChecksSpec)

/-- ITS FALSE NEIGHBOUR: 'it returns false'. Refute it at one input. -/
def simulateChecksWrong : ChangeSpec := { name := "simulateChecks", fn := fun _ => fun
  | [d1, d2, d3] => { results := [.lit (.bool false)], args := [d1, d2, d3] }
  | _ => none }
def SimulateChecksWrongFalsely : Prop := simulateChecksRow.holds Tryz.pinned (OpenSpec.ofChange simulateChecksWrong)

/-- 'pneumaticlaw39.SimulateMoves': WHATEVER THE INPUT: true; the input reads as it did. -/
def simulateMovesSpec : ChangeSpec := { name := "simulateMoves", fn := fun _ => fun
  | [d1, d2, d3] => { results := [.lit (.bool true)], args := [d1, d2, d3] }
  | _ => none }
def simulateMovesRow : OpenClaim := { program := "ytlhciedghbmjjaagreat", sum := "940a51ae39fa02ee41067c73a79caebf0adfafb01e05a9499ba4f57e3caed89d", func := "pneumatic/pneumaticlaw39.SimulateMoves", spec := "simulateMoves", unfollowed := true, recurses := true, loops := true, apart := false }
def SimulateMovesSaid : Prop := simulateMovesRow.holds Tryz.pinned (OpenSpec.ofChange simulateMovesSpec)

/-- ITS FALSE NEIGHBOUR: 'it returns false'. Refute it at one input. -/
def simulateMovesWrong : ChangeSpec := { name := "simulateMoves", fn := fun _ => fun
  | [d1, d2, d3] => { results := [.lit (.bool false)], args := [d1, d2, d3] }
  | _ => none }
def SimulateMovesWrongFalsely : Prop := simulateMovesRow.holds Tryz.pinned (OpenSpec.ofChange simulateMovesWrong)

/-- 'pneumaticlaw39.SimulateTakes': WHATEVER THE INPUT: true; the input reads as it did. -/
def simulateTakesSpec : ChangeSpec := { name := "simulateTakes", fn := fun _ => fun
  | [d1, d2, d3] => { results := [.lit (.bool true)], args := [d1, d2, d3] }
  | _ => none }
def simulateTakesRow : OpenClaim := { program := "ytlhciedghbmjjaagreat", sum := "940a51ae39fa02ee41067c73a79caebf0adfafb01e05a9499ba4f57e3caed89d", func := "pneumatic/pneumaticlaw39.SimulateTakes", spec := "simulateTakes", unfollowed := true, recurses := true, loops := true, apart := false }
def SimulateTakesSaid : Prop := simulateTakesRow.holds Tryz.pinned (OpenSpec.ofChange simulateTakesSpec)

/-- ITS FALSE NEIGHBOUR: 'it returns false'. Refute it at one input. -/
def simulateTakesWrong : ChangeSpec := { name := "simulateTakes", fn := fun _ => fun
  | [d1, d2, d3] => { results := [.lit (.bool false)], args := [d1, d2, d3] }
  | _ => none }
def SimulateTakesWrongFalsely : Prop := simulateTakesRow.holds Tryz.pinned (OpenSpec.ofChange simulateTakesWrong)

/-- 'pneumaticlaw39.SimulateBegins': WHATEVER THE INPUT: true; the input reads as it did. -/
def simulateBeginsSpec : ChangeSpec := { name := "simulateBegins", fn := fun _ => fun
  | [d1, d2, d3] => { results := [.lit (.bool true)], args := [d1, d2, d3] }
  | _ => none }
def simulateBeginsRow : OpenClaim := { program := "ytlhciedghbmjjaagreat", sum := "940a51ae39fa02ee41067c73a79caebf0adfafb01e05a9499ba4f57e3caed89d", func := "pneumatic/pneumaticlaw39.SimulateBegins", spec := "simulateBegins", unfollowed := true, recurses := true, loops := true, apart := false }
def SimulateBeginsSaid : Prop := simulateBeginsRow.holds Tryz.pinned (OpenSpec.ofChange simulateBeginsSpec)

/-- ITS FALSE NEIGHBOUR: 'it returns false'. Refute it at one input. -/
def simulateBeginsWrong : ChangeSpec := { name := "simulateBegins", fn := fun _ => fun
  | [d1, d2, d3] => { results := [.lit (.bool false)], args := [d1, d2, d3] }
  | _ => none }
def SimulateBeginsWrongFalsely : Prop := simulateBeginsRow.holds Tryz.pinned (OpenSpec.ofChange simulateBeginsWrong)

/-- 'pneumaticlaw39.SimulateEvents': WHATEVER THE INPUT: true; the input reads as it did. -/
def simulateEventsSpec : ChangeSpec := { name := "simulateEvents", fn := fun _ => fun
  | [d] => { results := [.lit (.bool true)], args := [d] }
  | _ => none }
def simulateEventsRow : OpenClaim := { program := "ytlhciedghbmjjaagreat", sum := "940a51ae39fa02ee41067c73a79caebf0adfafb01e05a9499ba4f57e3caed89d", func := "pneumatic/pneumaticlaw39.SimulateEvents", spec := "simulateEvents", unfollowed := true, recurses := true, apart := false }
def SimulateEventsSaid : Prop := simulateEventsRow.holds Tryz.pinned (OpenSpec.ofChange simulateEventsSpec)

/-- ITS FALSE NEIGHBOUR: 'it returns false'. Refute it at one input. -/
def simulateEventsWrong : ChangeSpec := { name := "simulateEvents", fn := fun _ => fun
  | [d] => { results := [.lit (.bool false)], args := [d] }
  | _ => none }
def SimulateEventsWrongFalsely : Prop := simulateEventsRow.holds Tryz.pinned (OpenSpec.ofChange simulateEventsWrong)

/-- 'pneumaticlaw39.SimulateLeads': WHATEVER THE INPUT: true; the input reads as it did. -/
def simulateLeadsSpec : ChangeSpec := { name := "simulateLeads", fn := fun _ => fun
  | [d1, d2, d3] => { results := [.lit (.bool true)], args := [d1, d2, d3] }
  | _ => none }
def simulateLeadsRow : OpenClaim := { program := "ytlhciedghbmjjaagreat", sum := "940a51ae39fa02ee41067c73a79caebf0adfafb01e05a9499ba4f57e3caed89d", func := "pneumatic/pneumaticlaw39.SimulateLeads", spec := "simulateLeads", unfollowed := true, recurses := true, loops := true, apart := false }
def SimulateLeadsSaid : Prop := simulateLeadsRow.holds Tryz.pinned (OpenSpec.ofChange simulateLeadsSpec)

/-- ITS FALSE NEIGHBOUR: 'it returns false'. Refute it at one input. -/
def simulateLeadsWrong : ChangeSpec := { name := "simulateLeads", fn := fun _ => fun
  | [d1, d2, d3] => { results := [.lit (.bool false)], args := [d1, d2, d3] }
  | _ => none }
def SimulateLeadsWrongFalsely : Prop := simulateLeadsRow.holds Tryz.pinned (OpenSpec.ofChange simulateLeadsWrong)

/- THE SECOND FORM. 'bulk': how many values and letters a reading holds, each counted each time it is reached (what is shared counts as often as it is met; a slice's spare places count too). A statement '..UptoSaid' is the law's where the arguments, and the package variables that the reading takes, are together of bulk at most 1048576: NARROWER than '..Said'. Prove '..Said' where nothing that the law and all that it calls make is longer than what came in: it says more and counts as full. Else prove '..UptoSaid'. A law counts once. -/
mutual
def uptoBulk {H : Type} : DataW H → Nat
  | .lit (.string bytes) => bytes.length + 1
  | .lit _ => 1
  | .nil => 1
  | .ptr d => uptoBulk d + 1
  | .slice elems spare => uptoBulkAll elems + uptoBulkAll spare + 1
  | .agg parts => uptoBulkAll parts + 1
  | .iface _ d => uptoBulk d + 1
  | .map entries => uptoBulkEntries entries + 1
  | .held _ => 1
def uptoBulkAll {H : Type} : List (DataW H) → Nat
  | [] => 0
  | d :: r => uptoBulk d + uptoBulkAll r
def uptoBulkEntries {H : Type} : List (Lit × DataW H) → Nat
  | [] => 0
  | x :: r => uptoBulkEntry x + uptoBulkEntries r
def uptoBulkEntry {H : Type} : Lit × DataW H → Nat
  | (.string bytes, d) => bytes.length + uptoBulk d + 1
  | (_, d) => uptoBulk d + 1
 end
def uptoSmall : (H : Type) → List (DataW H) → Bool := fun _ ds => decide (uptoBulkAll ds ≤ 1048576)
def OpenSpec.upto (s : _root_.Go.ChangeSpec) : _root_.Go.OpenSpec := { _root_.Go.OpenSpec.ofChange s with cond := some uptoSmall }

/-- 'pneumaticlaw39.SimulateChecks', WHERE WHAT IT READS IS OF BULK AT MOST 1048576: true; the input reads as it did. -/
def simulateChecksUptoRow : OpenClaim := { program := "ytlhciedghbmjjaagreat", sum := "940a51ae39fa02ee41067c73a79caebf0adfafb01e05a9499ba4f57e3caed89d", func := "pneumatic/pneumaticlaw39.SimulateChecks", spec := "simulateChecks", unfollowed := true, recurses := true, loops := true, apart := false, narrowed := true }
def SimulateChecksUptoSaid : Prop := simulateChecksUptoRow.holds Tryz.pinned (OpenSpec.upto simulateChecksSpec)

/-- 'pneumaticlaw39.SimulateMoves', WHERE WHAT IT READS IS OF BULK AT MOST 1048576: true; the input reads as it did. -/
def simulateMovesUptoRow : OpenClaim := { program := "ytlhciedghbmjjaagreat", sum := "940a51ae39fa02ee41067c73a79caebf0adfafb01e05a9499ba4f57e3caed89d", func := "pneumatic/pneumaticlaw39.SimulateMoves", spec := "simulateMoves", unfollowed := true, recurses := true, loops := true, apart := false, narrowed := true }
def SimulateMovesUptoSaid : Prop := simulateMovesUptoRow.holds Tryz.pinned (OpenSpec.upto simulateMovesSpec)

/-- 'pneumaticlaw39.SimulateTakes', WHERE WHAT IT READS IS OF BULK AT MOST 1048576: true; the input reads as it did. -/
def simulateTakesUptoRow : OpenClaim := { program := "ytlhciedghbmjjaagreat", sum := "940a51ae39fa02ee41067c73a79caebf0adfafb01e05a9499ba4f57e3caed89d", func := "pneumatic/pneumaticlaw39.SimulateTakes", spec := "simulateTakes", unfollowed := true, recurses := true, loops := true, apart := false, narrowed := true }
def SimulateTakesUptoSaid : Prop := simulateTakesUptoRow.holds Tryz.pinned (OpenSpec.upto simulateTakesSpec)

/-- 'pneumaticlaw39.SimulateBegins', WHERE WHAT IT READS IS OF BULK AT MOST 1048576: true; the input reads as it did. -/
def simulateBeginsUptoRow : OpenClaim := { program := "ytlhciedghbmjjaagreat", sum := "940a51ae39fa02ee41067c73a79caebf0adfafb01e05a9499ba4f57e3caed89d", func := "pneumatic/pneumaticlaw39.SimulateBegins", spec := "simulateBegins", unfollowed := true, recurses := true, loops := true, apart := false, narrowed := true }
def SimulateBeginsUptoSaid : Prop := simulateBeginsUptoRow.holds Tryz.pinned (OpenSpec.upto simulateBeginsSpec)

/-- 'pneumaticlaw39.SimulateEvents', WHERE WHAT IT READS IS OF BULK AT MOST 1048576: true; the input reads as it did. -/
def simulateEventsUptoRow : OpenClaim := { program := "ytlhciedghbmjjaagreat", sum := "940a51ae39fa02ee41067c73a79caebf0adfafb01e05a9499ba4f57e3caed89d", func := "pneumatic/pneumaticlaw39.SimulateEvents", spec := "simulateEvents", unfollowed := true, recurses := true, apart := false, narrowed := true }
def SimulateEventsUptoSaid : Prop := simulateEventsUptoRow.holds Tryz.pinned (OpenSpec.upto simulateEventsSpec)

/-- 'pneumaticlaw39.SimulateLeads', WHERE WHAT IT READS IS OF BULK AT MOST 1048576: true; the input reads as it did. -/
def simulateLeadsUptoRow : OpenClaim := { program := "ytlhciedghbmjjaagreat", sum := "940a51ae39fa02ee41067c73a79caebf0adfafb01e05a9499ba4f57e3caed89d", func := "pneumatic/pneumaticlaw39.SimulateLeads", spec := "simulateLeads", unfollowed := true, recurses := true, loops := true, apart := false, narrowed := true }
def SimulateLeadsUptoSaid : Prop := simulateLeadsUptoRow.holds Tryz.pinned (OpenSpec.upto simulateLeadsSpec)

end Rows
end Go.Proofs.YtlhciedghbmjjaaGreat
