/-
  NARROWER THAN 'FOR EVERY INPUT', by the rows' own cells (each row's printed sentence says how): FaultInjects: loops · FaultCarries: loops · FaultSame: loops.
  DERIVED. THE GIVEN ROWS OF THIS SEAT. 3 by the template 'for every input the law returns true; each argument reads behind the call as it read before'; 0 by the template 'total and deterministic' (their statements: YtopjiafdimoeiaaGreatTotals.lean).
  GIVEN WITH THE SEED: the statements are not yours to turn. If you find one false, say at which input.
  Laid BY PROGRAM, IN A SANDBOX (cutbox-rows.mjs): the forced cells as the released guide's own fill.sh prints them over the translation 7d91fa0554a40d7b… (all of the seat's roots in one cut). By AI agents, Wed Nov 11 2026. No macro, syntax, notation, axiom, sorry.
-/
import Derived.Test.YtopjiafdimoeiaaGreatChecked
import GoSem.Claim
import GoSem.ClaimJoined
import GoSem.ClaimMapViews
import Derived.JoinedTies
import Derived.KernelRfl
namespace Go.Proofs.YtopjiafdimoeiaaGreat
/- THE CELL 'sum', in the pinned program and in every row, IS THE sha256 OF THE DUMP (.gsa) THAT YtopjiafdimoeiaaGreatProg.lean LOADS. Nothing in Lean hashes anything: it is a label: what it is worth is what the hold of that sum in a sandbox is worth. -/
noncomputable def Tryz.pinned : Pinned := { name := "ytopjiafdimoeiaagreat", sum := "7d91fa0554a40d7bd0dddddd8a2c3354ebde80bf2b17632ad0a39da57fe329e0", checked := Tryz.checked }
namespace Rows
def none {H : Type} : Left H := { results := [], args := [] }

/-- 'pneumaticlaw51.FaultInjects': WHATEVER THE INPUT: true; the input reads as it did. -/
def faultInjectsSpec : ChangeSpec := { name := "faultInjects", fn := fun _ => fun
  | [d1, d2, d3] => { results := [.lit (.bool true)], args := [d1, d2, d3] }
  | _ => none }
def faultInjectsRow : OpenClaim := { program := "ytopjiafdimoeiaagreat", sum := "7d91fa0554a40d7bd0dddddd8a2c3354ebde80bf2b17632ad0a39da57fe329e0", func := "pneumatic/pneumaticlaw51.FaultInjects", spec := "faultInjects", unfollowed := true, recurses := true, loops := true, apart := false }
def FaultInjectsSaid : Prop := faultInjectsRow.holds Tryz.pinned (OpenSpec.ofChange faultInjectsSpec)

/-- ITS FALSE NEIGHBOUR: 'it returns false'. Refute it at one input. -/
def faultInjectsWrong : ChangeSpec := { name := "faultInjects", fn := fun _ => fun
  | [d1, d2, d3] => { results := [.lit (.bool false)], args := [d1, d2, d3] }
  | _ => none }
def FaultInjectsWrongFalsely : Prop := faultInjectsRow.holds Tryz.pinned (OpenSpec.ofChange faultInjectsWrong)

/-- 'pneumaticlaw51.FaultCarries': WHATEVER THE INPUT: true; the input reads as it did. -/
def faultCarriesSpec : ChangeSpec := { name := "faultCarries", fn := fun _ => fun
  | [d1, d2, d3] => { results := [.lit (.bool true)], args := [d1, d2, d3] }
  | _ => none }
def faultCarriesRow : OpenClaim := { program := "ytopjiafdimoeiaagreat", sum := "7d91fa0554a40d7bd0dddddd8a2c3354ebde80bf2b17632ad0a39da57fe329e0", func := "pneumatic/pneumaticlaw51.FaultCarries", spec := "faultCarries", unfollowed := true, recurses := true, loops := true, apart := false }
def FaultCarriesSaid : Prop := faultCarriesRow.holds Tryz.pinned (OpenSpec.ofChange faultCarriesSpec)

/-- ITS FALSE NEIGHBOUR: 'it returns false'. Refute it at one input. -/
def faultCarriesWrong : ChangeSpec := { name := "faultCarries", fn := fun _ => fun
  | [d1, d2, d3] => { results := [.lit (.bool false)], args := [d1, d2, d3] }
  | _ => none }
def FaultCarriesWrongFalsely : Prop := faultCarriesRow.holds Tryz.pinned (OpenSpec.ofChange faultCarriesWrong)

/-- 'pneumaticlaw51.FaultSame': WHATEVER THE INPUT: true; the input reads as it did. -/
def faultSameSpec : ChangeSpec := { name := "faultSame", fn := fun _ => fun
  | [d1, d2, d3] => { results := [.lit (.bool true)], args := [d1, d2, d3] }
  | _ => none }
def faultSameRow : OpenClaim := { program := "ytopjiafdimoeiaagreat", sum := "7d91fa0554a40d7bd0dddddd8a2c3354ebde80bf2b17632ad0a39da57fe329e0", func := "pneumatic/pneumaticlaw51.FaultSame", spec := "faultSame", unfollowed := true, recurses := true, loops := true, apart := false }
def FaultSameSaid : Prop := faultSameRow.holds Tryz.pinned (OpenSpec.ofChange faultSameSpec)

/-- ITS FALSE NEIGHBOUR: 'it returns false'. Refute it at one input. -/
def faultSameWrong : ChangeSpec := { name := "faultSame", fn := fun _ => fun
  | [d1, d2, d3] => { results := [.lit (.bool false)], args := [d1, d2, d3] }
  | _ => none }
def FaultSameWrongFalsely : Prop := faultSameRow.holds Tryz.pinned (OpenSpec.ofChange faultSameWrong)

/- THE SECOND FORM. 'bulk': how many values and letters a reading holds, each counted each time it is reached (what is shared counts as often as it is met; a slice's spare places count too). A statement '..UptoSaid' is the law's where the arguments, and the package variables that the reading takes, are together of bulk at most 1048576: NARROWER than '..Said'. Prove '..Said' where nothing that the law and all that it calls make is longer than what came in: it says more and counts as full. Else prove '..UptoSaid'. A law counts once. -/
mutual
def uptoBulk {H : Type} : DataW H → Nat
  | .lit (.string bytes) => bytes.length + 1
  | .lit _ => 1
  | .nil => 1
  | .ptr d => uptoBulk d + 1
  | .slice elems spare => uptoBulkAll elems + uptoBulkAll spare + 1
  | .agg parts => uptoBulkAll parts + 1
  | .iface _ d => uptoBulk d + 1
  | .map entries => uptoBulkEntries entries + 1
  | .held _ => 1
def uptoBulkAll {H : Type} : List (DataW H) → Nat
  | [] => 0
  | d :: r => uptoBulk d + uptoBulkAll r
def uptoBulkEntries {H : Type} : List (Lit × DataW H) → Nat
  | [] => 0
  | x :: r => uptoBulkEntry x + uptoBulkEntries r
def uptoBulkEntry {H : Type} : Lit × DataW H → Nat
  | (.string bytes, d) => bytes.length + uptoBulk d + 1
  | (_, d) => uptoBulk d + 1
 end
def uptoSmall : (H : Type) → List (DataW H) → Bool := fun _ ds => decide (uptoBulkAll ds ≤ 1048576)
def OpenSpec.upto (s : _root_.Go.ChangeSpec) : _root_.Go.OpenSpec := { _root_.Go.OpenSpec.ofChange s with cond := some uptoSmall }

/-- 'pneumaticlaw51.FaultInjects', WHERE WHAT IT READS IS OF BULK AT MOST 1048576: true; the input reads as it did. -/
def faultInjectsUptoRow : OpenClaim := { program := "ytopjiafdimoeiaagreat", sum := "7d91fa0554a40d7bd0dddddd8a2c3354ebde80bf2b17632ad0a39da57fe329e0", func := "pneumatic/pneumaticlaw51.FaultInjects", spec := "faultInjects", unfollowed := true, recurses := true, loops := true, apart := false, narrowed := true }
def FaultInjectsUptoSaid : Prop := faultInjectsUptoRow.holds Tryz.pinned (OpenSpec.upto faultInjectsSpec)

/-- 'pneumaticlaw51.FaultCarries', WHERE WHAT IT READS IS OF BULK AT MOST 1048576: true; the input reads as it did. -/
def faultCarriesUptoRow : OpenClaim := { program := "ytopjiafdimoeiaagreat", sum := "7d91fa0554a40d7bd0dddddd8a2c3354ebde80bf2b17632ad0a39da57fe329e0", func := "pneumatic/pneumaticlaw51.FaultCarries", spec := "faultCarries", unfollowed := true, recurses := true, loops := true, apart := false, narrowed := true }
def FaultCarriesUptoSaid : Prop := faultCarriesUptoRow.holds Tryz.pinned (OpenSpec.upto faultCarriesSpec)

/-- 'pneumaticlaw51.FaultSame', WHERE WHAT IT READS IS OF BULK AT MOST 1048576: true; the input reads as it did. -/
def faultSameUptoRow : OpenClaim := { program := "ytopjiafdimoeiaagreat", sum := "7d91fa0554a40d7bd0dddddd8a2c3354ebde80bf2b17632ad0a39da57fe329e0", func := "pneumatic/pneumaticlaw51.FaultSame", spec := "faultSame", unfollowed := true, recurses := true, loops := true, apart := false, narrowed := true }
def FaultSameUptoSaid : Prop := faultSameUptoRow.holds Tryz.pinned (OpenSpec.upto faultSameSpec)

end Rows
end Go.Proofs.YtopjiafdimoeiaaGreat
