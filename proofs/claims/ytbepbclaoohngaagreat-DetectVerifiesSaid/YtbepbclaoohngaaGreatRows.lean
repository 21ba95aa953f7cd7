/-
  NARROWER THAN 'FOR EVERY INPUT', by the rows' own cells (each row's printed sentence says how): DetectFinds: loops · DetectWatches: loops · DetectSees: loops · DetectNotices: loops · DetectVerifies: loops · DetectBreaks: loops · DetectEither: loops · DetectHarmless: loops.
  DERIVED. THE GIVEN ROWS OF THIS SEAT. 8 by the template 'for every input the law returns true; each argument reads behind the call as it read before'; 0 by the template 'total and deterministic' (their statements: YtbepbclaoohngaaGreatTotals.lean).
  GIVEN WITH THE SEED: the statements are not yours to turn. If you find one false, say at which input.
  Laid BY PROGRAM, IN A SANDBOX (cutbox-rows.mjs): the forced cells as the released guide's own fill.sh prints them over the translation 84b137ec694556e9… (all of the seat's roots in one cut). By AI agents, Wed Nov 11 2026. No macro, syntax, notation, axiom, sorry.
-/
import Derived.Test.YtbepbclaoohngaaGreatChecked
import GoSem.Claim
import GoSem.ClaimJoined
import GoSem.ClaimMapViews
import Derived.JoinedTies
import Derived.KernelRfl
namespace Go.Proofs.YtbepbclaoohngaaGreat
/- THE CELL 'sum', in the pinned program and in every row, IS THE sha256 OF THE DUMP (.gsa) THAT YtbepbclaoohngaaGreatProg.lean LOADS. Nothing in Lean hashes anything: it is a label: what it is worth is what the hold of that sum in a sandbox is worth. -/
noncomputable def Tryz.pinned : Pinned := { name := "ytbepbclaoohngaagreat", sum := "84b137ec694556e9daadad66b15bfec0e13dfa6d267228abcc742e554195a80e", checked := Tryz.checked }
namespace Rows
def none {H : Type} : Left H := { results := [], args := [] }

/-- 'pneumaticlaw52.DetectFinds': WHATEVER THE INPUT: true; the input reads as it did. -/
def detectFindsSpec : ChangeSpec := { name := "detectFinds", fn := fun _ => fun
  | [d1, d2, d3] => { results := [.lit (.bool true)], args := [d1, d2, d3] }
  | _ => none }
def detectFindsRow : OpenClaim := { program := "ytbepbclaoohngaagreat", sum := "84b137ec694556e9daadad66b15bfec0e13dfa6d267228abcc742e554195a80e", func := "pneumatic/pneumaticlaw52.DetectFinds", spec := "detectFinds", unfollowed := true, recurses := true, loops := true, apart := false }
def DetectFindsSaid : Prop := detectFindsRow.holds Tryz.pinned (OpenSpec.ofChange detectFindsSpec)

/-- ITS FALSE NEIGHBOUR: 'it returns false'. Refute it at one input. -/
def detectFindsWrong : ChangeSpec := { name := "detectFinds", fn := fun _ => fun
  | [d1, d2, d3] => { results := [.lit (.bool false)], args := [d1, d2, d3] }
  | _ => none }
def DetectFindsWrongFalsely : Prop := detectFindsRow.holds Tryz.pinned (OpenSpec.ofChange detectFindsWrong)

/-- 'pneumaticlaw52.DetectWatches': WHATEVER THE INPUT: true; the input reads as it did. -/
def detectWatchesSpec : ChangeSpec := { name := "detectWatches", fn := fun _ => fun
  | [d1, d2, d3] => { results := [.lit (.bool true)], args := [d1, d2, d3] }
  | _ => none }
def detectWatchesRow : OpenClaim := { program := "ytbepbclaoohngaagreat", sum := "84b137ec694556e9daadad66b15bfec0e13dfa6d267228abcc742e554195a80e", func := "pneumatic/pneumaticlaw52.DetectWatches", spec := "detectWatches", unfollowed := true, recurses := true, loops := true, apart := false }
def DetectWatchesSaid : Prop := detectWatchesRow.holds Tryz.pinned (OpenSpec.ofChange detectWatchesSpec)

/-- ITS FALSE NEIGHBOUR: 'it returns false'. Refute it at one input. -/
def detectWatchesWrong : ChangeSpec := { name := "detectWatches", fn := fun _ => fun
  | [d1, d2, d3] => { results := [.lit (.bool false)], args := [d1, d2, d3] }
  | _ => none }
def DetectWatchesWrongFalsely : Prop := detectWatchesRow.holds Tryz.pinned (OpenSpec.ofChange detectWatchesWrong)

/-- 'pneumaticlaw52.DetectSees': WHATEVER THE INPUT: true; the input reads as it did. -/
def detectSeesSpec : ChangeSpec := { name := "detectSees", fn := fun _ => fun
  | [d1, d2, d3] => { results := [.lit (.bool true)], args := [d1, d2, d3] }
  | _ => none }
def detectSeesRow : OpenClaim := { program := "ytbepbclaoohngaagreat", sum := "84b137ec694556e9daadad66b15bfec0e13dfa6d267228abcc742e554195a80e", func := "pneumatic/pneumaticlaw52.DetectSees", spec := "detectSees", unfollowed := true, recurses := true, loops := true, apart := false }
def DetectSeesSaid : Prop := detectSeesRow.holds Tryz.pinned (OpenSpec.ofChange detectSeesSpec)

/-- ITS FALSE NEIGHBOUR: 'it returns false'. Refute it at one input. -/
def detectSeesWrong : ChangeSpec := { name := "detectSees", fn := fun _ => fun
  | [d1, d2, d3] => { results := [.lit (.bool false)], args := [d1, d2, d3] }
  | _ => none }
def DetectSeesWrongFalsely : Prop := detectSeesRow.holds Tryz.pinned (OpenSpec.ofChange detectSeesWrong)

/-- 'pneumaticlaw52.DetectNotices': WHATEVER THE INPUT: true; the input reads as it did. -/
def detectNoticesSpec : ChangeSpec := { name := "detectNotices", fn := fun _ => fun
  | [d1, d2, d3] => { results := [.lit (.bool true)], args := [d1, d2, d3] }
  | _ => none }
def detectNoticesRow : OpenClaim := { program := "ytbepbclaoohngaagreat", sum := "84b137ec694556e9daadad66b15bfec0e13dfa6d267228abcc742e554195a80e", func := "pneumatic/pneumaticlaw52.DetectNotices", spec := "detectNotices", unfollowed := true, recurses := true, loops := true, apart := false }
def DetectNoticesSaid : Prop := detectNoticesRow.holds Tryz.pinned (OpenSpec.ofChange detectNoticesSpec)

/-- ITS FALSE NEIGHBOUR: 'it returns false'. Refute it at one input. -/
def detectNoticesWrong : ChangeSpec := { name := "detectNotices", fn := fun _ => fun
  | [d1, d2, d3] => { results := [.lit (.bool false)], args := [d1, d2, d3] }
  | _ => none }
def DetectNoticesWrongFalsely : Prop := detectNoticesRow.holds Tryz.pinned (OpenSpec.ofChange detectNoticesWrong)

/-- 'pneumaticlaw52.DetectVerifies': WHATEVER THE INPUT: true; the input reads as it did. -/
def detectVerifiesSpec : ChangeSpec := { name := "detectVerifies", fn := fun _ => fun
  | [d1, d2, d3] => { results := [.lit (.bool true)], args := [d1, d2, d3] }
  | _ => none }
def detectVerifiesRow : OpenClaim := { program := "ytbepbclaoohngaagreat", sum := "84b137ec694556e9daadad66b15bfec0e13dfa6d267228abcc742e554195a80e", func := "pneumatic/pneumaticlaw52.DetectVerifies", spec := "detectVerifies", unfollowed := true, recurses := true, loops := true, apart := false }
def DetectVerifiesSaid : Prop := detectVerifiesRow.holds Tryz.pinned (OpenSpec.ofChange detectVerifiesSpec)

/-- ITS FALSE NEIGHBOUR: 'it returns false'. Refute it at one input. -/
def detectVerifiesWrong : ChangeSpec := { name := "detectVerifies", fn := fun _ => fun
  | [d1, d2, d3] => { results := [.lit (.bool false)], args := [d1, d2, d3] }
  | _ => none }
def DetectVerifiesWrongFalsely : Prop := detectVerifiesRow.holds Tryz.pinned (OpenSpec.ofChange detectVerifiesWrong)

/-- 'pneumaticlaw52.DetectBreaks': WHATEVER THE INPUT: true; the input reads as it did. -/
def detectBreaksSpec : ChangeSpec := { name := "detectBreaks", fn := fun _ => fun
  | [d1, d2, d3] => { results := [.lit (.bool true)], args := [d1, d2, d3] }
  | _ => none }
def detectBreaksRow : OpenClaim := { program := "ytbepbclaoohngaagreat", sum := "84b137ec694556e9daadad66b15bfec0e13dfa6d267228abcc742e554195a80e", func := "pneumatic/pneumaticlaw52.DetectBreaks", spec := "detectBreaks", unfollowed := true, recurses := true, loops := true, apart := false }
def DetectBreaksSaid : Prop := detectBreaksRow.holds Tryz.pinned (OpenSpec.ofChange detectBreaksSpec)

/-- ITS FALSE NEIGHBOUR: 'it returns false'. Refute it at one input. -/
def detectBreaksWrong : ChangeSpec := { name := "detectBreaks", fn := fun _ => fun
  | [d1, d2, d3] => { results := [.lit (.bool false)], args := [d1, d2, d3] }
  | _ => none }
def DetectBreaksWrongFalsely : Prop := detectBreaksRow.holds Tryz.pinned (OpenSpec.ofChange detectBreaksWrong)

/-- 'pneumaticlaw52.DetectEither': WHATEVER THE INPUT: true; the input reads as it did. -/
def detectEitherSpec : ChangeSpec := { name := "detectEither", fn := fun _ => fun
  | [d1, d2] => { results := [.lit (.bool true)], args := [d1, d2] }
  | _ => none }
def detectEitherRow : OpenClaim := { program := "ytbepbclaoohngaagreat", sum := "84b137ec694556e9daadad66b15bfec0e13dfa6d267228abcc742e554195a80e", func := "pneumatic/pneumaticlaw52.DetectEither", spec := "detectEither", unfollowed := true, recurses := true, loops := true, apart := false }
def DetectEitherSaid : Prop := detectEitherRow.holds Tryz.pinned (OpenSpec.ofChange detectEitherSpec)

/-- ITS FALSE NEIGHBOUR: 'it returns false'. Refute it at one input. -/
def detectEitherWrong : ChangeSpec := { name := "detectEither", fn := fun _ => fun
  | [d1, d2] => { results := [.lit (.bool false)], args := [d1, d2] }
  | _ => none }
def DetectEitherWrongFalsely : Prop := detectEitherRow.holds Tryz.pinned (OpenSpec.ofChange detectEitherWrong)

/-- 'pneumaticlaw52.DetectHarmless': WHATEVER THE INPUT: true; the input reads as it did. -/
def detectHarmlessSpec : ChangeSpec := { name := "detectHarmless", fn := fun _ => fun
  | [d1, d2, d3] => { results := [.lit (.bool true)], args := [d1, d2, d3] }
  | _ => none }
def detectHarmlessRow : OpenClaim := { program := "ytbepbclaoohngaagreat", sum := "84b137ec694556e9daadad66b15bfec0e13dfa6d267228abcc742e554195a80e", func := "pneumatic/pneumaticlaw52.DetectHarmless", spec := "detectHarmless", unfollowed := true, recurses := true, loops := true, apart := false }
def DetectHarmlessSaid : Prop := detectHarmlessRow.holds Tryz.pinned (OpenSpec.ofChange detectHarmlessSpec)

/-- ITS FALSE NEIGHBOUR: 'it returns false'. Refute it at one input. -/
def detectHarmlessWrong : ChangeSpec := { name := "detectHarmless", fn := fun _ => fun
  | [d1, d2, d3] => { results := [.lit (.bool false)], args := [d1, d2, d3] }
  | _ => none }
def DetectHarmlessWrongFalsely : Prop := detectHarmlessRow.holds Tryz.pinned (OpenSpec.ofChange detectHarmlessWrong)

/- THE SECOND FORM. 'bulk': how many values and letters a reading holds, each counted each time it is reached (what is shared counts as often as it is met; a slice's spare places count too). A statement '..UptoSaid' is the law's where the arguments, and the package variables that the reading takes, are together of bulk at most 1048576: NARROWER than '..Said'. Prove '..Said' where nothing that the law and all that it calls make is longer than what came in: it says more and counts as full. Else prove '..UptoSaid'. A law counts once. -/
mutual
def uptoBulk {H : Type} : DataW H → Nat
  | .lit (.string bytes) => bytes.length + 1
  | .lit _ => 1
  | .nil => 1
  | .ptr d => uptoBulk d + 1
  | .slice elems spare => uptoBulkAll elems + uptoBulkAll spare + 1
  | .agg parts => uptoBulkAll parts + 1
  | .iface _ d => uptoBulk d + 1
  | .map entries => uptoBulkEntries entries + 1
  | .held _ => 1
def uptoBulkAll {H : Type} : List (DataW H) → Nat
  | [] => 0
  | d :: r => uptoBulk d + uptoBulkAll r
def uptoBulkEntries {H : Type} : List (Lit × DataW H) → Nat
  | [] => 0
  | x :: r => uptoBulkEntry x + uptoBulkEntries r
def uptoBulkEntry {H : Type} : Lit × DataW H → Nat
  | (.string bytes, d) => bytes.length + uptoBulk d + 1
  | (_, d) => uptoBulk d + 1
 end
def uptoSmall : (H : Type) → List (DataW H) → Bool := fun _ ds => decide (uptoBulkAll ds ≤ 1048576)
def OpenSpec.upto (s : _root_.Go.ChangeSpec) : _root_.Go.OpenSpec := { _root_.Go.OpenSpec.ofChange s with cond := some uptoSmall }

/-- 'pneumaticlaw52.DetectFinds', WHERE WHAT IT READS IS OF BULK AT MOST 1048576: true; the input reads as it did. -/
def detectFindsUptoRow : OpenClaim := { program := "ytbepbclaoohngaagreat", sum := "84b137ec694556e9daadad66b15bfec0e13dfa6d267228abcc742e554195a80e", func := "pneumatic/pneumaticlaw52.DetectFinds", spec := "detectFinds", unfollowed := true, recurses := true, loops := true, apart := false, narrowed := true }
def DetectFindsUptoSaid : Prop := detectFindsUptoRow.holds Tryz.pinned (OpenSpec.upto detectFindsSpec)

/-- 'pneumaticlaw52.DetectWatches', WHERE WHAT IT READS IS OF BULK AT MOST 1048576: true; the input reads as it did. -/
def detectWatchesUptoRow : OpenClaim := { program := "ytbepbclaoohngaagreat", sum := "84b137ec694556e9daadad66b15bfec0e13dfa6d267228abcc742e554195a80e", func := "pneumatic/pneumaticlaw52.DetectWatches", spec := "detectWatches", unfollowed := true, recurses := true, loops := true, apart := false, narrowed := true }
def DetectWatchesUptoSaid : Prop := detectWatchesUptoRow.holds Tryz.pinned (OpenSpec.upto detectWatchesSpec)

/-- 'pneumaticlaw52.DetectSees', WHERE WHAT IT READS IS OF BULK AT MOST 1048576: true; the input reads as it did. -/
def detectSeesUptoRow : OpenClaim := { program := "ytbepbclaoohngaagreat", sum := "84b137ec694556e9daadad66b15bfec0e13dfa6d267228abcc742e554195a80e", func := "pneumatic/pneumaticlaw52.DetectSees", spec := "detectSees", unfollowed := true, recurses := true, loops := true, apart := false, narrowed := true }
def DetectSeesUptoSaid : Prop := detectSeesUptoRow.holds Tryz.pinned (OpenSpec.upto detectSeesSpec)

/-- 'pneumaticlaw52.DetectNotices', WHERE WHAT IT READS IS OF BULK AT MOST 1048576: true; the input reads as it did. -/
def detectNoticesUptoRow : OpenClaim := { program := "ytbepbclaoohngaagreat", sum := "84b137ec694556e9daadad66b15bfec0e13dfa6d267228abcc742e554195a80e", func := "pneumatic/pneumaticlaw52.DetectNotices", spec := "detectNotices", unfollowed := true, recurses := true, loops := true, apart := false, narrowed := true }
def DetectNoticesUptoSaid : Prop := detectNoticesUptoRow.holds Tryz.pinned (OpenSpec.upto detectNoticesSpec)

/-- 'pneumaticlaw52.DetectVerifies', WHERE WHAT IT READS IS OF BULK AT MOST 1048576: true; the input reads as it did. -/
def detectVerifiesUptoRow : OpenClaim := { program := "ytbepbclaoohngaagreat", sum := "84b137ec694556e9daadad66b15bfec0e13dfa6d267228abcc742e554195a80e", func := "pneumatic/pneumaticlaw52.DetectVerifies", spec := "detectVerifies", unfollowed := true, recurses := true, loops := true, apart := false, narrowed := true }
def DetectVerifiesUptoSaid : Prop := detectVerifiesUptoRow.holds Tryz.pinned (OpenSpec.upto detectVerifiesSpec)

/-- 'pneumaticlaw52.DetectBreaks', WHERE WHAT IT READS IS OF BULK AT MOST 1048576: true; the input reads as it did. -/
def detectBreaksUptoRow : OpenClaim := { program := "ytbepbclaoohngaagreat", sum := "84b137ec694556e9daadad66b15bfec0e13dfa6d267228abcc742e554195a80e", func := "pneumatic/pneumaticlaw52.DetectBreaks", spec := "detectBreaks", unfollowed := true, recurses := true, loops := true, apart := false, narrowed := true }
def DetectBreaksUptoSaid : Prop := detectBreaksUptoRow.holds Tryz.pinned (OpenSpec.upto detectBreaksSpec)

/-- 'pneumaticlaw52.DetectEither', WHERE WHAT IT READS IS OF BULK AT MOST 1048576: true; the input reads as it did. -/
def detectEitherUptoRow : OpenClaim := { program := "ytbepbclaoohngaagreat", sum := "84b137ec694556e9daadad66b15bfec0e13dfa6d267228abcc742e554195a80e", func := "pneumatic/pneumaticlaw52.DetectEither", spec := "detectEither", unfollowed := true, recurses := true, loops := true, apart := false, narrowed := true }
def DetectEitherUptoSaid : Prop := detectEitherUptoRow.holds Tryz.pinned (OpenSpec.upto detectEitherSpec)

/-- 'pneumaticlaw52.DetectHarmless', WHERE WHAT IT READS IS OF BULK AT MOST 1048576: true; the input reads as it did. -/
def detectHarmlessUptoRow : OpenClaim := { program := "ytbepbclaoohngaagreat", sum := "84b137ec694556e9daadad66b15bfec0e13dfa6d267228abcc742e554195a80e", func := "pneumatic/pneumaticlaw52.DetectHarmless", spec := "detectHarmless", unfollowed := true, recurses := true, loops := true, apart := false, narrowed := true }
def DetectHarmlessUptoSaid : Prop := detectHarmlessUptoRow.holds Tryz.pinned (OpenSpec.upto detectHarmlessSpec)

end Rows
end Go.Proofs.YtbepbclaoohngaaGreat
