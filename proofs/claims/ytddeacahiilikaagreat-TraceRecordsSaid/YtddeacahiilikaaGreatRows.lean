/-
  NARROWER THAN 'FOR EVERY INPUT', by the rows' own cells (each row's printed sentence says how): FaultHolds: loops · SimulateMiddles: loops · TraceRecords: loops.
  DERIVED. THE GIVEN ROWS OF THIS SEAT. 4 by the template 'for every input the law returns true; each argument reads behind the call as it read before'; 0 by the template 'total and deterministic' (their statements: YtddeacahiilikaaGreatTotals.lean).
  GIVEN WITH THE SEED: the statements are not yours to turn. If you find one false, say at which input.
  Laid BY PROGRAM, IN A SANDBOX (cutbox-rows.mjs): the forced cells as the released guide's own fill.sh prints them over the translation 9a45117d143416d3… (all of the seat's roots in one cut). By AI agents, Wed Nov 11 2026. No macro, syntax, notation, axiom, sorry.
-/
import Derived.Test.YtddeacahiilikaaGreatChecked
import GoSem.Claim
import GoSem.ClaimJoined
import GoSem.ClaimMapViews
import Derived.JoinedTies
import Derived.KernelRfl
namespace Go.Proofs.YtddeacahiilikaaGreat
/- THE CELL 'sum', in the pinned program and in every row, IS THE sha256 OF THE DUMP (.gsa) THAT YtddeacahiilikaaGreatProg.lean LOADS. Nothing in Lean hashes anything: it is a label: what it is worth is what the hold of that sum in a sandbox is worth. -/
noncomputable def Tryz.pinned : Pinned := { name := "ytddeacahiilikaagreat", sum := "9a45117d143416d3eea693f983545a9554ca2c241d90bc013e30c1cd6adcd773", checked := Tryz.checked }
namespace Rows
def none {H : Type} : Left H := { results := [], args := [] }

/-- 'pneumaticlaw51.FaultHolds': WHATEVER THE INPUT: true; the input reads as it did. -/
def faultHoldsSpec : ChangeSpec := { name := "faultHolds", fn := fun _ => fun
  | [d1, d2, d3] => { results := [.lit (.bool true)], args := [d1, d2, d3] }
  | _ => none }
def faultHoldsRow : OpenClaim := { program := "ytddeacahiilikaagreat", sum := "9a45117d143416d3eea693f983545a9554ca2c241d90bc013e30c1cd6adcd773", func := "pneumatic/pneumaticlaw51.FaultHolds", spec := "faultHolds", unfollowed := true, recurses := true, loops := true, apart := false }
def FaultHoldsSaid : Prop := faultHoldsRow.holds Tryz.pinned (OpenSpec.ofChange faultHoldsSpec)

/-- ITS FALSE NEIGHBOUR: 'it returns false'. Refute it at one input. -/
def faultHoldsWrong : ChangeSpec := { name := "faultHolds", fn := fun _ => fun
  | [d1, d2, d3] => { results := [.lit (.bool false)], args := [d1, d2, d3] }
  | _ => none }
def FaultHoldsWrongFalsely : Prop := faultHoldsRow.holds Tryz.pinned (OpenSpec.ofChange faultHoldsWrong)

/-- 'pneumaticlaw39.SimulateMiddles': WHATEVER THE INPUT: true; the input reads as it did. -/
def simulateMiddlesSpec : ChangeSpec := { name := "simulateMiddles", fn := fun _ => fun
  | [d1, d2] => { results := [.lit (.bool true)], args := [d1, d2] }
  | _ => none }
def simulateMiddlesRow : OpenClaim := { program := "ytddeacahiilikaagreat", sum := "9a45117d143416d3eea693f983545a9554ca2c241d90bc013e30c1cd6adcd773", func := "pneumatic/pneumaticlaw39.SimulateMiddles", spec := "simulateMiddles", unfollowed := true, recurses := true, loops := true, apart := false }
def SimulateMiddlesSaid : Prop := simulateMiddlesRow.holds Tryz.pinned (OpenSpec.ofChange simulateMiddlesSpec)

/-- ITS FALSE NEIGHBOUR: 'it returns false'. Refute it at one input. -/
def simulateMiddlesWrong : ChangeSpec := { name := "simulateMiddles", fn := fun _ => fun
  | [d1, d2] => { results := [.lit (.bool false)], args := [d1, d2] }
  | _ => none }
def SimulateMiddlesWrongFalsely : Prop := simulateMiddlesRow.holds Tryz.pinned (OpenSpec.ofChange simulateMiddlesWrong)

/-- 'pneumaticlaw39.SimulateKeeps': WHATEVER THE INPUT: true; the input reads as it did. -/
def simulateKeepsSpec : ChangeSpec := { name := "simulateKeeps", fn := fun _ => fun
  | [d1, d2] => { results := [.lit (.bool true)], args := [d1, d2] }
  | _ => none }
def simulateKeepsRow : OpenClaim := { program := "ytddeacahiilikaagreat", sum := "9a45117d143416d3eea693f983545a9554ca2c241d90bc013e30c1cd6adcd773", func := "pneumatic/pneumaticlaw39.SimulateKeeps", spec := "simulateKeeps", unfollowed := true, recurses := true, apart := false }
def SimulateKeepsSaid : Prop := simulateKeepsRow.holds Tryz.pinned (OpenSpec.ofChange simulateKeepsSpec)

/-- ITS FALSE NEIGHBOUR: 'it returns false'. Refute it at one input. -/
def simulateKeepsWrong : ChangeSpec := { name := "simulateKeeps", fn := fun _ => fun
  | [d1, d2] => { results := [.lit (.bool false)], args := [d1, d2] }
  | _ => none }
def SimulateKeepsWrongFalsely : Prop := simulateKeepsRow.holds Tryz.pinned (OpenSpec.ofChange simulateKeepsWrong)

/-- 'pneumaticlaw42.TraceRecords': WHATEVER THE INPUT: true; the input reads as it did. -/
def traceRecordsSpec : ChangeSpec := { name := "traceRecords", fn := fun _ => fun
  | [d1, d2] => { results := [.lit (.bool true)], args := [d1, d2] }
  | _ => none }
def traceRecordsRow : OpenClaim := { program := "ytddeacahiilikaagreat", sum := "9a45117d143416d3eea693f983545a9554ca2c241d90bc013e30c1cd6adcd773", func := "pneumatic/pneumaticlaw42.TraceRecords", spec := "traceRecords", unfollowed := true, recurses := true, loops := true, apart := false }
def TraceRecordsSaid : Prop := traceRecordsRow.holds Tryz.pinned (OpenSpec.ofChange traceRecordsSpec)

/-- ITS FALSE NEIGHBOUR: 'it returns false'. Refute it at one input. -/
def traceRecordsWrong : ChangeSpec := { name := "traceRecords", fn := fun _ => fun
  | [d1, d2] => { results := [.lit (.bool false)], args := [d1, d2] }
  | _ => none }
def TraceRecordsWrongFalsely : Prop := traceRecordsRow.holds Tryz.pinned (OpenSpec.ofChange traceRecordsWrong)

/- THE SECOND FORM. 'bulk': how many values and letters a reading holds, each counted each time it is reached (what is shared counts as often as it is met; a slice's spare places count too). A statement '..UptoSaid' is the law's where the arguments, and the package variables that the reading takes, are together of bulk at most 1048576: NARROWER than '..Said'. Prove '..Said' where nothing that the law and all that it calls make is longer than what came in: it says more and counts as full. Else prove '..UptoSaid'. A law counts once. -/
mutual
def uptoBulk {H : Type} : DataW H → Nat
  | .lit (.string bytes) => bytes.length + 1
  | .lit _ => 1
  | .nil => 1
  | .ptr d => uptoBulk d + 1
  | .slice elems spare => uptoBulkAll elems + uptoBulkAll spare + 1
  | .agg parts => uptoBulkAll parts + 1
  | .iface _ d => uptoBulk d + 1
  | .map entries => uptoBulkEntries entries + 1
  | .held _ => 1
def uptoBulkAll {H : Type} : List (DataW H) → Nat
  | [] => 0
  | d :: r => uptoBulk d + uptoBulkAll r
def uptoBulkEntries {H : Type} : List (Lit × DataW H) → Nat
  | [] => 0
  | x :: r => uptoBulkEntry x + uptoBulkEntries r
def uptoBulkEntry {H : Type} : Lit × DataW H → Nat
  | (.string bytes, d) => bytes.length + uptoBulk d + 1
  | (_, d) => uptoBulk d + 1
 end
def uptoSmall : (H : Type) → List (DataW H) → Bool := fun _ ds => decide (uptoBulkAll ds ≤ 1048576)
def OpenSpec.upto (s : _root_.Go.ChangeSpec) : _root_.Go.OpenSpec := { _root_.Go.OpenSpec.ofChange s with cond := some uptoSmall }

/-- 'pneumaticlaw51.FaultHolds', WHERE WHAT IT READS IS OF BULK AT MOST 1048576: true; the input reads as it did. -/
def faultHoldsUptoRow : OpenClaim := { program := "ytddeacahiilikaagreat", sum := "9a45117d143416d3eea693f983545a9554ca2c241d90bc013e30c1cd6adcd773", func := "pneumatic/pneumaticlaw51.FaultHolds", spec := "faultHolds", unfollowed := true, recurses := true, loops := true, apart := false, narrowed := true }
def FaultHoldsUptoSaid : Prop := faultHoldsUptoRow.holds Tryz.pinned (OpenSpec.upto faultHoldsSpec)

/-- 'pneumaticlaw39.SimulateMiddles', WHERE WHAT IT READS IS OF BULK AT MOST 1048576: true; the input reads as it did. -/
def simulateMiddlesUptoRow : OpenClaim := { program := "ytddeacahiilikaagreat", sum := "9a45117d143416d3eea693f983545a9554ca2c241d90bc013e30c1cd6adcd773", func := "pneumatic/pneumaticlaw39.SimulateMiddles", spec := "simulateMiddles", unfollowed := true, recurses := true, loops := true, apart := false, narrowed := true }
def SimulateMiddlesUptoSaid : Prop := simulateMiddlesUptoRow.holds Tryz.pinned (OpenSpec.upto simulateMiddlesSpec)

/-- 'pneumaticlaw39.SimulateKeeps', WHERE WHAT IT READS IS OF BULK AT MOST 1048576: true; the input reads as it did. -/
def simulateKeepsUptoRow : OpenClaim := { program := "ytddeacahiilikaagreat", sum := "9a45117d143416d3eea693f983545a9554ca2c241d90bc013e30c1cd6adcd773", func := "pneumatic/pneumaticlaw39.SimulateKeeps", spec := "simulateKeeps", unfollowed := true, recurses := true, apart := false, narrowed := true }
def SimulateKeepsUptoSaid : Prop := simulateKeepsUptoRow.holds Tryz.pinned (OpenSpec.upto simulateKeepsSpec)

/-- 'pneumaticlaw42.TraceRecords', WHERE WHAT IT READS IS OF BULK AT MOST 1048576: true; the input reads as it did. -/
def traceRecordsUptoRow : OpenClaim := { program := "ytddeacahiilikaagreat", sum := "9a45117d143416d3eea693f983545a9554ca2c241d90bc013e30c1cd6adcd773", func := "pneumatic/pneumaticlaw42.TraceRecords", spec := "traceRecords", unfollowed := true, recurses := true, loops := true, apart := false, narrowed := true }
def TraceRecordsUptoSaid : Prop := traceRecordsUptoRow.holds Tryz.pinned (OpenSpec.upto traceRecordsSpec)

end Rows
end Go.Proofs.YtddeacahiilikaaGreat
