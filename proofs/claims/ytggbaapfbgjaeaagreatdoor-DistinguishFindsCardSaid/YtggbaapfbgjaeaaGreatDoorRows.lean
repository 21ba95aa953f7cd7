/-
  NARROWER THAN 'FOR EVERY INPUT', by the rows' own cells (each row's printed sentence says how): DistinguishFinds: loops, laid · DistinguishRuns: loops, laid · DistinguishLengthens: loops, laid · DistinguishCovers: loops, laid · DistinguishSuites: loops, laid · DistinguishLeast: loops, laid · DistinguishGroups: loops, laid · DistinguishHides: loops, laid.
  DERIVED. THE GIVEN ROWS OF THIS SEAT. 8 by the template 'for every input the law returns true; each argument reads behind the call as it read before'; 0 by the template 'total and deterministic' (their statements: YtggbaapfbgjaeaaGreatDoorTotals.lean).
  GIVEN WITH THE SEED: the statements are not yours to turn. If you find one false, say at which input.
  Laid BY PROGRAM, IN A SANDBOX (cutbox-rows.mjs): the forced cells as the released guide's own fill.sh prints them over the translation edb693ead5215e2a… (all of the seat's roots in one cut). By AI agents, Wed Nov 11 2026. No macro, syntax, notation, axiom, sorry.
-/
import Derived.Test.YtggbaapfbgjaeaaGreatDoorChecked
import GoSem.Claim
import GoSem.ClaimJoined
import GoSem.ClaimMapViews
import Derived.JoinedTies
import Derived.KernelRfl
namespace Go.Proofs.YtggbaapfbgjaeaaGreatDoor
/- THE CELL 'sum', in the pinned program and in every row, IS THE sha256 OF THE DUMP (.gsa) THAT YtggbaapfbgjaeaaGreatDoorProg.lean LOADS. Nothing in Lean hashes anything: it is a label: what it is worth is what the hold of that sum in a sandbox is worth. -/
noncomputable def Tryz.pinned : Pinned := { name := "ytggbaapfbgjaeaagreatdoor", sum := "edb693ead5215e2a3065b7ecb1bff70f9a88877badce3edc359e306ef7c137c5", checked := Tryz.checked }
namespace Rows
def none {H : Type} : Left H := { results := [], args := [] }

/- WHAT THE LISTED PACKAGE-LEVEL VARIABLES READ AS WHEN THE CALL BEGINS. Each datum BY PROGRAM (the guide's laid-datum.mjs) off the statement by which the dump's own 'gosem.cut.vars' lays the variable. In a bare row this is a premise. The card (YtggbaapfbgjaeaaGreatDoorCards.lean) ties it to the program's text. -/
def laid_math_bits_deBruijn32tab {H : Type} : DataW H := .agg [.lit (.int .u8 0), .lit (.int .u8 1), .lit (.int .u8 28), .lit (.int .u8 2), .lit (.int .u8 29), .lit (.int .u8 14), .lit (.int .u8 24), .lit (.int .u8 3), .lit (.int .u8 30), .lit (.int .u8 22), .lit (.int .u8 20), .lit (.int .u8 15), .lit (.int .u8 25), .lit (.int .u8 17), .lit (.int .u8 4), .lit (.int .u8 8), .lit (.int .u8 31), .lit (.int .u8 27), .lit (.int .u8 13), .lit (.int .u8 23), .lit (.int .u8 21), .lit (.int .u8 19), .lit (.int .u8 16), .lit (.int .u8 7), .lit (.int .u8 26), .lit (.int .u8 12), .lit (.int .u8 18), .lit (.int .u8 6), .lit (.int .u8 11), .lit (.int .u8 5), .lit (.int .u8 10), .lit (.int .u8 9)]
def laid_math_bits_deBruijn64tab {H : Type} : DataW H := .agg [.lit (.int .u8 0), .lit (.int .u8 1), .lit (.int .u8 56), .lit (.int .u8 2), .lit (.int .u8 57), .lit (.int .u8 49), .lit (.int .u8 28), .lit (.int .u8 3), .lit (.int .u8 61), .lit (.int .u8 58), .lit (.int .u8 42), .lit (.int .u8 50), .lit (.int .u8 38), .lit (.int .u8 29), .lit (.int .u8 17), .lit (.int .u8 4), .lit (.int .u8 62), .lit (.int .u8 47), .lit (.int .u8 59), .lit (.int .u8 36), .lit (.int .u8 45), .lit (.int .u8 43), .lit (.int .u8 51), .lit (.int .u8 22), .lit (.int .u8 53), .lit (.int .u8 39), .lit (.int .u8 33), .lit (.int .u8 30), .lit (.int .u8 24), .lit (.int .u8 18), .lit (.int .u8 12), .lit (.int .u8 5), .lit (.int .u8 63), .lit (.int .u8 55), .lit (.int .u8 48), .lit (.int .u8 27), .lit (.int .u8 60), .lit (.int .u8 41), .lit (.int .u8 37), .lit (.int .u8 16), .lit (.int .u8 46), .lit (.int .u8 35), .lit (.int .u8 44), .lit (.int .u8 21), .lit (.int .u8 52), .lit (.int .u8 32), .lit (.int .u8 23), .lit (.int .u8 11), .lit (.int .u8 54), .lit (.int .u8 26), .lit (.int .u8 40), .lit (.int .u8 15), .lit (.int .u8 34), .lit (.int .u8 20), .lit (.int .u8 31), .lit (.int .u8 10), .lit (.int .u8 25), .lit (.int .u8 14), .lit (.int .u8 19), .lit (.int .u8 9), .lit (.int .u8 13), .lit (.int .u8 8), .lit (.int .u8 7), .lit (.int .u8 6)]
def laid_internal_strconv_uint64pow10 {H : Type} : DataW H := .agg [.lit (.int .u64 1), .lit (.int .u64 10), .lit (.int .u64 100), .lit (.int .u64 1000), .lit (.int .u64 10000), .lit (.int .u64 100000), .lit (.int .u64 1000000), .lit (.int .u64 10000000), .lit (.int .u64 100000000), .lit (.int .u64 1000000000), .lit (.int .u64 10000000000), .lit (.int .u64 100000000000), .lit (.int .u64 1000000000000), .lit (.int .u64 10000000000000), .lit (.int .u64 100000000000000), .lit (.int .u64 1000000000000000), .lit (.int .u64 10000000000000000), .lit (.int .u64 100000000000000000), .lit (.int .u64 1000000000000000000), .lit (.int .u64 10000000000000000000)]

/-- 'pneumaticlaw53.DistinguishFinds': WHATEVER THE INPUT: true; the input reads as it did. -/
def distinguishFindsSpec : ChangeSpec := { name := "distinguishFinds", fn := fun _ => fun
  | [d1, d2, d3] => { results := [.lit (.bool true)], args := [d1, d2, d3] }
  | _ => none }
def distinguishFindsRow : OpenClaim := { program := "ytggbaapfbgjaeaagreatdoor", sum := "edb693ead5215e2a3065b7ecb1bff70f9a88877badce3edc359e306ef7c137c5", func := "pneumatic/pneumaticlaw53.DistinguishFinds", spec := "distinguishFinds", inPlace := ["internal/abi.NoEscape"], unfollowed := true, recurses := true, named := ["internal/strconv.uint64pow10", "math/bits.deBruijn32tab", "math/bits.deBruijn64tab"], loops := true, apart := false, laid := [("math/bits.deBruijn32tab", laid_math_bits_deBruijn32tab), ("math/bits.deBruijn64tab", laid_math_bits_deBruijn64tab), ("internal/strconv.uint64pow10", laid_internal_strconv_uint64pow10)] }
def DistinguishFindsSaid : Prop := distinguishFindsRow.holds Tryz.pinned (OpenSpec.ofChange distinguishFindsSpec)

/-- ITS FALSE NEIGHBOUR: 'it returns false'. Refute it at one input. -/
def distinguishFindsWrong : ChangeSpec := { name := "distinguishFinds", fn := fun _ => fun
  | [d1, d2, d3] => { results := [.lit (.bool false)], args := [d1, d2, d3] }
  | _ => none }
def DistinguishFindsWrongFalsely : Prop := distinguishFindsRow.holds Tryz.pinned (OpenSpec.ofChange distinguishFindsWrong)

/-- 'pneumaticlaw53.DistinguishRuns': WHATEVER THE INPUT: true; the input reads as it did. -/
def distinguishRunsSpec : ChangeSpec := { name := "distinguishRuns", fn := fun _ => fun
  | [d1, d2, d3] => { results := [.lit (.bool true)], args := [d1, d2, d3] }
  | _ => none }
def distinguishRunsRow : OpenClaim := { program := "ytggbaapfbgjaeaagreatdoor", sum := "edb693ead5215e2a3065b7ecb1bff70f9a88877badce3edc359e306ef7c137c5", func := "pneumatic/pneumaticlaw53.DistinguishRuns", spec := "distinguishRuns", inPlace := ["internal/abi.NoEscape"], unfollowed := true, recurses := true, named := ["internal/strconv.uint64pow10", "math/bits.deBruijn32tab", "math/bits.deBruijn64tab"], loops := true, apart := false, laid := [("math/bits.deBruijn32tab", laid_math_bits_deBruijn32tab), ("math/bits.deBruijn64tab", laid_math_bits_deBruijn64tab), ("internal/strconv.uint64pow10", laid_internal_strconv_uint64pow10)] }
def DistinguishRunsSaid : Prop := distinguishRunsRow.holds Tryz.pinned (OpenSpec.ofChange distinguishRunsSpec)

/-- ITS FALSE NEIGHBOUR: 'it returns false'. Refute it at one input. -/
def distinguishRunsWrong : ChangeSpec := { name := "distinguishRuns", fn := fun _ => fun
  | [d1, d2, d3] => { results := [.lit (.bool false)], args := [d1, d2, d3] }
  | _ => none }
def DistinguishRunsWrongFalsely : Prop := distinguishRunsRow.holds Tryz.pinned (OpenSpec.ofChange distinguishRunsWrong)

/-- 'pneumaticlaw53.DistinguishLengthens': WHATEVER THE INPUT: true; the input reads as it did. -/
def distinguishLengthensSpec : ChangeSpec := { name := "distinguishLengthens", fn := fun _ => fun
  | [d1, d2, d3] => { results := [.lit (.bool true)], args := [d1, d2, d3] }
  | _ => none }
def distinguishLengthensRow : OpenClaim := { program := "ytggbaapfbgjaeaagreatdoor", sum := "edb693ead5215e2a3065b7ecb1bff70f9a88877badce3edc359e306ef7c137c5", func := "pneumatic/pneumaticlaw53.DistinguishLengthens", spec := "distinguishLengthens", inPlace := ["internal/abi.NoEscape"], unfollowed := true, recurses := true, named := ["internal/strconv.uint64pow10", "math/bits.deBruijn32tab", "math/bits.deBruijn64tab"], loops := true, apart := false, laid := [("math/bits.deBruijn32tab", laid_math_bits_deBruijn32tab), ("math/bits.deBruijn64tab", laid_math_bits_deBruijn64tab), ("internal/strconv.uint64pow10", laid_internal_strconv_uint64pow10)] }
def DistinguishLengthensSaid : Prop := distinguishLengthensRow.holds Tryz.pinned (OpenSpec.ofChange distinguishLengthensSpec)

/-- ITS FALSE NEIGHBOUR: 'it returns false'. Refute it at one input. -/
def distinguishLengthensWrong : ChangeSpec := { name := "distinguishLengthens", fn := fun _ => fun
  | [d1, d2, d3] => { results := [.lit (.bool false)], args := [d1, d2, d3] }
  | _ => none }
def DistinguishLengthensWrongFalsely : Prop := distinguishLengthensRow.holds Tryz.pinned (OpenSpec.ofChange distinguishLengthensWrong)

/-- 'pneumaticlaw53.DistinguishCovers': WHATEVER THE INPUT: true; the input reads as it did. -/
def distinguishCoversSpec : ChangeSpec := { name := "distinguishCovers", fn := fun _ => fun
  | [d1, d2, d3] => { results := [.lit (.bool true)], args := [d1, d2, d3] }
  | _ => none }
def distinguishCoversRow : OpenClaim := { program := "ytggbaapfbgjaeaagreatdoor", sum := "edb693ead5215e2a3065b7ecb1bff70f9a88877badce3edc359e306ef7c137c5", func := "pneumatic/pneumaticlaw53.DistinguishCovers", spec := "distinguishCovers", inPlace := ["internal/abi.NoEscape"], unfollowed := true, recurses := true, named := ["internal/strconv.uint64pow10", "math/bits.deBruijn32tab", "math/bits.deBruijn64tab"], loops := true, apart := false, laid := [("math/bits.deBruijn32tab", laid_math_bits_deBruijn32tab), ("math/bits.deBruijn64tab", laid_math_bits_deBruijn64tab), ("internal/strconv.uint64pow10", laid_internal_strconv_uint64pow10)] }
def DistinguishCoversSaid : Prop := distinguishCoversRow.holds Tryz.pinned (OpenSpec.ofChange distinguishCoversSpec)

/-- ITS FALSE NEIGHBOUR: 'it returns false'. Refute it at one input. -/
def distinguishCoversWrong : ChangeSpec := { name := "distinguishCovers", fn := fun _ => fun
  | [d1, d2, d3] => { results := [.lit (.bool false)], args := [d1, d2, d3] }
  | _ => none }
def DistinguishCoversWrongFalsely : Prop := distinguishCoversRow.holds Tryz.pinned (OpenSpec.ofChange distinguishCoversWrong)

/-- 'pneumaticlaw53.DistinguishSuites': WHATEVER THE INPUT: true; the input reads as it did. -/
def distinguishSuitesSpec : ChangeSpec := { name := "distinguishSuites", fn := fun _ => fun
  | [d1, d2, d3] => { results := [.lit (.bool true)], args := [d1, d2, d3] }
  | _ => none }
def distinguishSuitesRow : OpenClaim := { program := "ytggbaapfbgjaeaagreatdoor", sum := "edb693ead5215e2a3065b7ecb1bff70f9a88877badce3edc359e306ef7c137c5", func := "pneumatic/pneumaticlaw53.DistinguishSuites", spec := "distinguishSuites", inPlace := ["internal/abi.NoEscape"], unfollowed := true, recurses := true, named := ["internal/strconv.uint64pow10", "math/bits.deBruijn32tab", "math/bits.deBruijn64tab"], loops := true, apart := false, laid := [("math/bits.deBruijn32tab", laid_math_bits_deBruijn32tab), ("math/bits.deBruijn64tab", laid_math_bits_deBruijn64tab), ("internal/strconv.uint64pow10", laid_internal_strconv_uint64pow10)] }
def DistinguishSuitesSaid : Prop := distinguishSuitesRow.holds Tryz.pinned (OpenSpec.ofChange distinguishSuitesSpec)

/-- ITS FALSE NEIGHBOUR: 'it returns false'. Refute it at one input. -/
def distinguishSuitesWrong : ChangeSpec := { name := "distinguishSuites", fn := fun _ => fun
  | [d1, d2, d3] => { results := [.lit (.bool false)], args := [d1, d2, d3] }
  | _ => none }
def DistinguishSuitesWrongFalsely : Prop := distinguishSuitesRow.holds Tryz.pinned (OpenSpec.ofChange distinguishSuitesWrong)

/-- 'pneumaticlaw53.DistinguishLeast': WHATEVER THE INPUT: true; the input reads as it did. -/
def distinguishLeastSpec : ChangeSpec := { name := "distinguishLeast", fn := fun _ => fun
  | [d1, d2, d3] => { results := [.lit (.bool true)], args := [d1, d2, d3] }
  | _ => none }
def distinguishLeastRow : OpenClaim := { program := "ytggbaapfbgjaeaagreatdoor", sum := "edb693ead5215e2a3065b7ecb1bff70f9a88877badce3edc359e306ef7c137c5", func := "pneumatic/pneumaticlaw53.DistinguishLeast", spec := "distinguishLeast", inPlace := ["internal/abi.NoEscape"], unfollowed := true, recurses := true, named := ["internal/strconv.uint64pow10", "math/bits.deBruijn32tab", "math/bits.deBruijn64tab"], loops := true, apart := false, laid := [("math/bits.deBruijn32tab", laid_math_bits_deBruijn32tab), ("math/bits.deBruijn64tab", laid_math_bits_deBruijn64tab), ("internal/strconv.uint64pow10", laid_internal_strconv_uint64pow10)] }
def DistinguishLeastSaid : Prop := distinguishLeastRow.holds Tryz.pinned (OpenSpec.ofChange distinguishLeastSpec)

/-- ITS FALSE NEIGHBOUR: 'it returns false'. Refute it at one input. -/
def distinguishLeastWrong : ChangeSpec := { name := "distinguishLeast", fn := fun _ => fun
  | [d1, d2, d3] => { results := [.lit (.bool false)], args := [d1, d2, d3] }
  | _ => none }
def DistinguishLeastWrongFalsely : Prop := distinguishLeastRow.holds Tryz.pinned (OpenSpec.ofChange distinguishLeastWrong)

/-- 'pneumaticlaw53.DistinguishGroups': WHATEVER THE INPUT: true; the input reads as it did. -/
def distinguishGroupsSpec : ChangeSpec := { name := "distinguishGroups", fn := fun _ => fun
  | [d1, d2, d3] => { results := [.lit (.bool true)], args := [d1, d2, d3] }
  | _ => none }
def distinguishGroupsRow : OpenClaim := { program := "ytggbaapfbgjaeaagreatdoor", sum := "edb693ead5215e2a3065b7ecb1bff70f9a88877badce3edc359e306ef7c137c5", func := "pneumatic/pneumaticlaw53.DistinguishGroups", spec := "distinguishGroups", inPlace := ["internal/abi.NoEscape"], unfollowed := true, recurses := true, named := ["internal/strconv.uint64pow10", "math/bits.deBruijn32tab", "math/bits.deBruijn64tab"], loops := true, apart := false, laid := [("math/bits.deBruijn32tab", laid_math_bits_deBruijn32tab), ("math/bits.deBruijn64tab", laid_math_bits_deBruijn64tab), ("internal/strconv.uint64pow10", laid_internal_strconv_uint64pow10)] }
def DistinguishGroupsSaid : Prop := distinguishGroupsRow.holds Tryz.pinned (OpenSpec.ofChange distinguishGroupsSpec)

/-- ITS FALSE NEIGHBOUR: 'it returns false'. Refute it at one input. -/
def distinguishGroupsWrong : ChangeSpec := { name := "distinguishGroups", fn := fun _ => fun
  | [d1, d2, d3] => { results := [.lit (.bool false)], args := [d1, d2, d3] }
  | _ => none }
def DistinguishGroupsWrongFalsely : Prop := distinguishGroupsRow.holds Tryz.pinned (OpenSpec.ofChange distinguishGroupsWrong)

/-- 'pneumaticlaw53.DistinguishHides': WHATEVER THE INPUT: true; the input reads as it did. -/
def distinguishHidesSpec : ChangeSpec := { name := "distinguishHides", fn := fun _ => fun
  | [d1, d2, d3] => { results := [.lit (.bool true)], args := [d1, d2, d3] }
  | _ => none }
def distinguishHidesRow : OpenClaim := { program := "ytggbaapfbgjaeaagreatdoor", sum := "edb693ead5215e2a3065b7ecb1bff70f9a88877badce3edc359e306ef7c137c5", func := "pneumatic/pneumaticlaw53.DistinguishHides", spec := "distinguishHides", inPlace := ["internal/abi.NoEscape"], unfollowed := true, recurses := true, named := ["internal/strconv.uint64pow10", "math/bits.deBruijn32tab", "math/bits.deBruijn64tab"], loops := true, apart := false, laid := [("math/bits.deBruijn32tab", laid_math_bits_deBruijn32tab), ("math/bits.deBruijn64tab", laid_math_bits_deBruijn64tab), ("internal/strconv.uint64pow10", laid_internal_strconv_uint64pow10)] }
def DistinguishHidesSaid : Prop := distinguishHidesRow.holds Tryz.pinned (OpenSpec.ofChange distinguishHidesSpec)

/-- ITS FALSE NEIGHBOUR: 'it returns false'. Refute it at one input. -/
def distinguishHidesWrong : ChangeSpec := { name := "distinguishHides", fn := fun _ => fun
  | [d1, d2, d3] => { results := [.lit (.bool false)], args := [d1, d2, d3] }
  | _ => none }
def DistinguishHidesWrongFalsely : Prop := distinguishHidesRow.holds Tryz.pinned (OpenSpec.ofChange distinguishHidesWrong)

/- THE SECOND FORM. 'bulk': how many values and letters a reading holds, each counted each time it is reached (what is shared counts as often as it is met; a slice's spare places count too). A statement '..UptoSaid' is the law's where the arguments, and the package variables that the reading takes, are together of bulk at most 1048576: NARROWER than '..Said'. Prove '..Said' where nothing that the law and all that it calls make is longer than what came in: it says more and counts as full. Else prove '..UptoSaid'. A law counts once. -/
mutual
def uptoBulk {H : Type} : DataW H → Nat
  | .lit (.string bytes) => bytes.length + 1
  | .lit _ => 1
  | .nil => 1
  | .ptr d => uptoBulk d + 1
  | .slice elems spare => uptoBulkAll elems + uptoBulkAll spare + 1
  | .agg parts => uptoBulkAll parts + 1
  | .iface _ d => uptoBulk d + 1
  | .map entries => uptoBulkEntries entries + 1
  | .held _ => 1
def uptoBulkAll {H : Type} : List (DataW H) → Nat
  | [] => 0
  | d :: r => uptoBulk d + uptoBulkAll r
def uptoBulkEntries {H : Type} : List (Lit × DataW H) → Nat
  | [] => 0
  | x :: r => uptoBulkEntry x + uptoBulkEntries r
def uptoBulkEntry {H : Type} : Lit × DataW H → Nat
  | (.string bytes, d) => bytes.length + uptoBulk d + 1
  | (_, d) => uptoBulk d + 1
 end
def uptoSmall : (H : Type) → List (DataW H) → Bool := fun _ ds => decide (uptoBulkAll ds ≤ 1048576)
def OpenSpec.upto (s : _root_.Go.ChangeSpec) : _root_.Go.OpenSpec := { _root_.Go.OpenSpec.ofChange s with cond := some uptoSmall }

/-- 'pneumaticlaw53.DistinguishFinds', WHERE WHAT IT READS IS OF BULK AT MOST 1048576: true; the input reads as it did. -/
def distinguishFindsUptoRow : OpenClaim := { program := "ytggbaapfbgjaeaagreatdoor", sum := "edb693ead5215e2a3065b7ecb1bff70f9a88877badce3edc359e306ef7c137c5", func := "pneumatic/pneumaticlaw53.DistinguishFinds", spec := "distinguishFinds", inPlace := ["internal/abi.NoEscape"], unfollowed := true, recurses := true, named := ["internal/strconv.uint64pow10", "math/bits.deBruijn32tab", "math/bits.deBruijn64tab"], loops := true, apart := false, laid := [("math/bits.deBruijn32tab", laid_math_bits_deBruijn32tab), ("math/bits.deBruijn64tab", laid_math_bits_deBruijn64tab), ("internal/strconv.uint64pow10", laid_internal_strconv_uint64pow10)], narrowed := true }
def DistinguishFindsUptoSaid : Prop := distinguishFindsUptoRow.holds Tryz.pinned (OpenSpec.upto distinguishFindsSpec)

/-- 'pneumaticlaw53.DistinguishRuns', WHERE WHAT IT READS IS OF BULK AT MOST 1048576: true; the input reads as it did. -/
def distinguishRunsUptoRow : OpenClaim := { program := "ytggbaapfbgjaeaagreatdoor", sum := "edb693ead5215e2a3065b7ecb1bff70f9a88877badce3edc359e306ef7c137c5", func := "pneumatic/pneumaticlaw53.DistinguishRuns", spec := "distinguishRuns", inPlace := ["internal/abi.NoEscape"], unfollowed := true, recurses := true, named := ["internal/strconv.uint64pow10", "math/bits.deBruijn32tab", "math/bits.deBruijn64tab"], loops := true, apart := false, laid := [("math/bits.deBruijn32tab", laid_math_bits_deBruijn32tab), ("math/bits.deBruijn64tab", laid_math_bits_deBruijn64tab), ("internal/strconv.uint64pow10", laid_internal_strconv_uint64pow10)], narrowed := true }
def DistinguishRunsUptoSaid : Prop := distinguishRunsUptoRow.holds Tryz.pinned (OpenSpec.upto distinguishRunsSpec)

/-- 'pneumaticlaw53.DistinguishLengthens', WHERE WHAT IT READS IS OF BULK AT MOST 1048576: true; the input reads as it did. -/
def distinguishLengthensUptoRow : OpenClaim := { program := "ytggbaapfbgjaeaagreatdoor", sum := "edb693ead5215e2a3065b7ecb1bff70f9a88877badce3edc359e306ef7c137c5", func := "pneumatic/pneumaticlaw53.DistinguishLengthens", spec := "distinguishLengthens", inPlace := ["internal/abi.NoEscape"], unfollowed := true, recurses := true, named := ["internal/strconv.uint64pow10", "math/bits.deBruijn32tab", "math/bits.deBruijn64tab"], loops := true, apart := false, laid := [("math/bits.deBruijn32tab", laid_math_bits_deBruijn32tab), ("math/bits.deBruijn64tab", laid_math_bits_deBruijn64tab), ("internal/strconv.uint64pow10", laid_internal_strconv_uint64pow10)], narrowed := true }
def DistinguishLengthensUptoSaid : Prop := distinguishLengthensUptoRow.holds Tryz.pinned (OpenSpec.upto distinguishLengthensSpec)

/-- 'pneumaticlaw53.DistinguishCovers', WHERE WHAT IT READS IS OF BULK AT MOST 1048576: true; the input reads as it did. -/
def distinguishCoversUptoRow : OpenClaim := { program := "ytggbaapfbgjaeaagreatdoor", sum := "edb693ead5215e2a3065b7ecb1bff70f9a88877badce3edc359e306ef7c137c5", func := "pneumatic/pneumaticlaw53.DistinguishCovers", spec := "distinguishCovers", inPlace := ["internal/abi.NoEscape"], unfollowed := true, recurses := true, named := ["internal/strconv.uint64pow10", "math/bits.deBruijn32tab", "math/bits.deBruijn64tab"], loops := true, apart := false, laid := [("math/bits.deBruijn32tab", laid_math_bits_deBruijn32tab), ("math/bits.deBruijn64tab", laid_math_bits_deBruijn64tab), ("internal/strconv.uint64pow10", laid_internal_strconv_uint64pow10)], narrowed := true }
def DistinguishCoversUptoSaid : Prop := distinguishCoversUptoRow.holds Tryz.pinned (OpenSpec.upto distinguishCoversSpec)

/-- 'pneumaticlaw53.DistinguishSuites', WHERE WHAT IT READS IS OF BULK AT MOST 1048576: true; the input reads as it did. -/
def distinguishSuitesUptoRow : OpenClaim := { program := "ytggbaapfbgjaeaagreatdoor", sum := "edb693ead5215e2a3065b7ecb1bff70f9a88877badce3edc359e306ef7c137c5", func := "pneumatic/pneumaticlaw53.DistinguishSuites", spec := "distinguishSuites", inPlace := ["internal/abi.NoEscape"], unfollowed := true, recurses := true, named := ["internal/strconv.uint64pow10", "math/bits.deBruijn32tab", "math/bits.deBruijn64tab"], loops := true, apart := false, laid := [("math/bits.deBruijn32tab", laid_math_bits_deBruijn32tab), ("math/bits.deBruijn64tab", laid_math_bits_deBruijn64tab), ("internal/strconv.uint64pow10", laid_internal_strconv_uint64pow10)], narrowed := true }
def DistinguishSuitesUptoSaid : Prop := distinguishSuitesUptoRow.holds Tryz.pinned (OpenSpec.upto distinguishSuitesSpec)

/-- 'pneumaticlaw53.DistinguishLeast', WHERE WHAT IT READS IS OF BULK AT MOST 1048576: true; the input reads as it did. -/
def distinguishLeastUptoRow : OpenClaim := { program := "ytggbaapfbgjaeaagreatdoor", sum := "edb693ead5215e2a3065b7ecb1bff70f9a88877badce3edc359e306ef7c137c5", func := "pneumatic/pneumaticlaw53.DistinguishLeast", spec := "distinguishLeast", inPlace := ["internal/abi.NoEscape"], unfollowed := true, recurses := true, named := ["internal/strconv.uint64pow10", "math/bits.deBruijn32tab", "math/bits.deBruijn64tab"], loops := true, apart := false, laid := [("math/bits.deBruijn32tab", laid_math_bits_deBruijn32tab), ("math/bits.deBruijn64tab", laid_math_bits_deBruijn64tab), ("internal/strconv.uint64pow10", laid_internal_strconv_uint64pow10)], narrowed := true }
def DistinguishLeastUptoSaid : Prop := distinguishLeastUptoRow.holds Tryz.pinned (OpenSpec.upto distinguishLeastSpec)

/-- 'pneumaticlaw53.DistinguishGroups', WHERE WHAT IT READS IS OF BULK AT MOST 1048576: true; the input reads as it did. -/
def distinguishGroupsUptoRow : OpenClaim := { program := "ytggbaapfbgjaeaagreatdoor", sum := "edb693ead5215e2a3065b7ecb1bff70f9a88877badce3edc359e306ef7c137c5", func := "pneumatic/pneumaticlaw53.DistinguishGroups", spec := "distinguishGroups", inPlace := ["internal/abi.NoEscape"], unfollowed := true, recurses := true, named := ["internal/strconv.uint64pow10", "math/bits.deBruijn32tab", "math/bits.deBruijn64tab"], loops := true, apart := false, laid := [("math/bits.deBruijn32tab", laid_math_bits_deBruijn32tab), ("math/bits.deBruijn64tab", laid_math_bits_deBruijn64tab), ("internal/strconv.uint64pow10", laid_internal_strconv_uint64pow10)], narrowed := true }
def DistinguishGroupsUptoSaid : Prop := distinguishGroupsUptoRow.holds Tryz.pinned (OpenSpec.upto distinguishGroupsSpec)

/-- 'pneumaticlaw53.DistinguishHides', WHERE WHAT IT READS IS OF BULK AT MOST 1048576: true; the input reads as it did. -/
def distinguishHidesUptoRow : OpenClaim := { program := "ytggbaapfbgjaeaagreatdoor", sum := "edb693ead5215e2a3065b7ecb1bff70f9a88877badce3edc359e306ef7c137c5", func := "pneumatic/pneumaticlaw53.DistinguishHides", spec := "distinguishHides", inPlace := ["internal/abi.NoEscape"], unfollowed := true, recurses := true, named := ["internal/strconv.uint64pow10", "math/bits.deBruijn32tab", "math/bits.deBruijn64tab"], loops := true, apart := false, laid := [("math/bits.deBruijn32tab", laid_math_bits_deBruijn32tab), ("math/bits.deBruijn64tab", laid_math_bits_deBruijn64tab), ("internal/strconv.uint64pow10", laid_internal_strconv_uint64pow10)], narrowed := true }
def DistinguishHidesUptoSaid : Prop := distinguishHidesUptoRow.holds Tryz.pinned (OpenSpec.upto distinguishHidesSpec)

end Rows
end Go.Proofs.YtggbaapfbgjaeaaGreatDoor
