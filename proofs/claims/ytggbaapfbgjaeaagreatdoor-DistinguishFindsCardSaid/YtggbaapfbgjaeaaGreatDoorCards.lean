/-
  DERIVED. GIVEN WITH THE SEED: THE CARDS: each row of YtggbaapfbgjaeaaGreatDoorRows.lean that lists a variable, with what it lists TIED to the program's text (the seventh form; the later family's looks); each row that meets fmt, with fmt's text TOLD by the authors' own Lean function (tested against real Go, not proved from fmt's source: count such statements apart). THE CARD IS WHAT COUNTS. Prove the row's statement (the work); the ties are given (YtggbaapfbgjaeaaGreatDoorTie.lean); close each card by the builder's one call (the guide's Derived/Test/ToyasCard.lean, 'card_holds'). Laid BY PROGRAM, IN A SANDBOX (cutbox-door.mjs). By AI agents, Wed Nov 11 2026. No macro, syntax, notation, axiom, sorry.
-/
import Derived.Test.YtggbaapfbgjaeaaGreatDoorRows
import GoSem.ClaimSeven
namespace Go.Proofs.YtggbaapfbgjaeaaGreatDoor
namespace Rows

/-- THE TIED CARD OF 'pneumaticlaw53.DistinguishFinds'. -/
def distinguishFindsCard : Claim7 := { stood := { row := distinguishFindsRow, standIns := [], harness := (true, "9959c826baf198ffce50579f06e279d843709b97e94ec5b31d1738605335ddcf"), looks := false }, kinds := [], alts := [], laidByText := true, laidKinds := [.data, .data, .data], laidTests := true, laidLooks := .later }
def DistinguishFindsCardSaid : Prop := Claim7.holds Tryz.pinned (.plain (OpenSpec.ofChange distinguishFindsSpec)) distinguishFindsCard

/-- THE TIED CARD OF 'pneumaticlaw53.DistinguishRuns'. -/
def distinguishRunsCard : Claim7 := { stood := { row := distinguishRunsRow, standIns := [], harness := (true, "9959c826baf198ffce50579f06e279d843709b97e94ec5b31d1738605335ddcf"), looks := false }, kinds := [], alts := [], laidByText := true, laidKinds := [.data, .data, .data], laidTests := true, laidLooks := .later }
def DistinguishRunsCardSaid : Prop := Claim7.holds Tryz.pinned (.plain (OpenSpec.ofChange distinguishRunsSpec)) distinguishRunsCard

/-- THE TIED CARD OF 'pneumaticlaw53.DistinguishLengthens'. -/
def distinguishLengthensCard : Claim7 := { stood := { row := distinguishLengthensRow, standIns := [], harness := (true, "9959c826baf198ffce50579f06e279d843709b97e94ec5b31d1738605335ddcf"), looks := false }, kinds := [], alts := [], laidByText := true, laidKinds := [.data, .data, .data], laidTests := true, laidLooks := .later }
def DistinguishLengthensCardSaid : Prop := Claim7.holds Tryz.pinned (.plain (OpenSpec.ofChange distinguishLengthensSpec)) distinguishLengthensCard

/-- THE TIED CARD OF 'pneumaticlaw53.DistinguishCovers'. -/
def distinguishCoversCard : Claim7 := { stood := { row := distinguishCoversRow, standIns := [], harness := (true, "9959c826baf198ffce50579f06e279d843709b97e94ec5b31d1738605335ddcf"), looks := false }, kinds := [], alts := [], laidByText := true, laidKinds := [.data, .data, .data], laidTests := true, laidLooks := .later }
def DistinguishCoversCardSaid : Prop := Claim7.holds Tryz.pinned (.plain (OpenSpec.ofChange distinguishCoversSpec)) distinguishCoversCard

/-- THE TIED CARD OF 'pneumaticlaw53.DistinguishSuites'. -/
def distinguishSuitesCard : Claim7 := { stood := { row := distinguishSuitesRow, standIns := [], harness := (true, "9959c826baf198ffce50579f06e279d843709b97e94ec5b31d1738605335ddcf"), looks := false }, kinds := [], alts := [], laidByText := true, laidKinds := [.data, .data, .data], laidTests := true, laidLooks := .later }
def DistinguishSuitesCardSaid : Prop := Claim7.holds Tryz.pinned (.plain (OpenSpec.ofChange distinguishSuitesSpec)) distinguishSuitesCard

/-- THE TIED CARD OF 'pneumaticlaw53.DistinguishLeast'. -/
def distinguishLeastCard : Claim7 := { stood := { row := distinguishLeastRow, standIns := [], harness := (true, "9959c826baf198ffce50579f06e279d843709b97e94ec5b31d1738605335ddcf"), looks := false }, kinds := [], alts := [], laidByText := true, laidKinds := [.data, .data, .data], laidTests := true, laidLooks := .later }
def DistinguishLeastCardSaid : Prop := Claim7.holds Tryz.pinned (.plain (OpenSpec.ofChange distinguishLeastSpec)) distinguishLeastCard

/-- THE TIED CARD OF 'pneumaticlaw53.DistinguishGroups'. -/
def distinguishGroupsCard : Claim7 := { stood := { row := distinguishGroupsRow, standIns := [], harness := (true, "9959c826baf198ffce50579f06e279d843709b97e94ec5b31d1738605335ddcf"), looks := false }, kinds := [], alts := [], laidByText := true, laidKinds := [.data, .data, .data], laidTests := true, laidLooks := .later }
def DistinguishGroupsCardSaid : Prop := Claim7.holds Tryz.pinned (.plain (OpenSpec.ofChange distinguishGroupsSpec)) distinguishGroupsCard

/-- THE TIED CARD OF 'pneumaticlaw53.DistinguishHides'. -/
def distinguishHidesCard : Claim7 := { stood := { row := distinguishHidesRow, standIns := [], harness := (true, "9959c826baf198ffce50579f06e279d843709b97e94ec5b31d1738605335ddcf"), looks := false }, kinds := [], alts := [], laidByText := true, laidKinds := [.data, .data, .data], laidTests := true, laidLooks := .later }
def DistinguishHidesCardSaid : Prop := Claim7.holds Tryz.pinned (.plain (OpenSpec.ofChange distinguishHidesSpec)) distinguishHidesCard

/-- THE SECOND FORM's CARD OF 'pneumaticlaw53.DistinguishFinds'. -/
def distinguishFindsUptoCard : Claim7 := { stood := { row := distinguishFindsUptoRow, standIns := [], harness := (true, "9959c826baf198ffce50579f06e279d843709b97e94ec5b31d1738605335ddcf"), looks := false }, kinds := [], alts := [], laidByText := true, laidKinds := [.data, .data, .data], laidTests := true, laidLooks := .later }
def DistinguishFindsUptoCardSaid : Prop := Claim7.holds Tryz.pinned (.plain (OpenSpec.upto distinguishFindsSpec)) distinguishFindsUptoCard

/-- THE SECOND FORM's CARD OF 'pneumaticlaw53.DistinguishRuns'. -/
def distinguishRunsUptoCard : Claim7 := { stood := { row := distinguishRunsUptoRow, standIns := [], harness := (true, "9959c826baf198ffce50579f06e279d843709b97e94ec5b31d1738605335ddcf"), looks := false }, kinds := [], alts := [], laidByText := true, laidKinds := [.data, .data, .data], laidTests := true, laidLooks := .later }
def DistinguishRunsUptoCardSaid : Prop := Claim7.holds Tryz.pinned (.plain (OpenSpec.upto distinguishRunsSpec)) distinguishRunsUptoCard

/-- THE SECOND FORM's CARD OF 'pneumaticlaw53.DistinguishLengthens'. -/
def distinguishLengthensUptoCard : Claim7 := { stood := { row := distinguishLengthensUptoRow, standIns := [], harness := (true, "9959c826baf198ffce50579f06e279d843709b97e94ec5b31d1738605335ddcf"), looks := false }, kinds := [], alts := [], laidByText := true, laidKinds := [.data, .data, .data], laidTests := true, laidLooks := .later }
def DistinguishLengthensUptoCardSaid : Prop := Claim7.holds Tryz.pinned (.plain (OpenSpec.upto distinguishLengthensSpec)) distinguishLengthensUptoCard

/-- THE SECOND FORM's CARD OF 'pneumaticlaw53.DistinguishCovers'. -/
def distinguishCoversUptoCard : Claim7 := { stood := { row := distinguishCoversUptoRow, standIns := [], harness := (true, "9959c826baf198ffce50579f06e279d843709b97e94ec5b31d1738605335ddcf"), looks := false }, kinds := [], alts := [], laidByText := true, laidKinds := [.data, .data, .data], laidTests := true, laidLooks := .later }
def DistinguishCoversUptoCardSaid : Prop := Claim7.holds Tryz.pinned (.plain (OpenSpec.upto distinguishCoversSpec)) distinguishCoversUptoCard

/-- THE SECOND FORM's CARD OF 'pneumaticlaw53.DistinguishSuites'. -/
def distinguishSuitesUptoCard : Claim7 := { stood := { row := distinguishSuitesUptoRow, standIns := [], harness := (true, "9959c826baf198ffce50579f06e279d843709b97e94ec5b31d1738605335ddcf"), looks := false }, kinds := [], alts := [], laidByText := true, laidKinds := [.data, .data, .data], laidTests := true, laidLooks := .later }
def DistinguishSuitesUptoCardSaid : Prop := Claim7.holds Tryz.pinned (.plain (OpenSpec.upto distinguishSuitesSpec)) distinguishSuitesUptoCard

/-- THE SECOND FORM's CARD OF 'pneumaticlaw53.DistinguishLeast'. -/
def distinguishLeastUptoCard : Claim7 := { stood := { row := distinguishLeastUptoRow, standIns := [], harness := (true, "9959c826baf198ffce50579f06e279d843709b97e94ec5b31d1738605335ddcf"), looks := false }, kinds := [], alts := [], laidByText := true, laidKinds := [.data, .data, .data], laidTests := true, laidLooks := .later }
def DistinguishLeastUptoCardSaid : Prop := Claim7.holds Tryz.pinned (.plain (OpenSpec.upto distinguishLeastSpec)) distinguishLeastUptoCard

/-- THE SECOND FORM's CARD OF 'pneumaticlaw53.DistinguishGroups'. -/
def distinguishGroupsUptoCard : Claim7 := { stood := { row := distinguishGroupsUptoRow, standIns := [], harness := (true, "9959c826baf198ffce50579f06e279d843709b97e94ec5b31d1738605335ddcf"), looks := false }, kinds := [], alts := [], laidByText := true, laidKinds := [.data, .data, .data], laidTests := true, laidLooks := .later }
def DistinguishGroupsUptoCardSaid : Prop := Claim7.holds Tryz.pinned (.plain (OpenSpec.upto distinguishGroupsSpec)) distinguishGroupsUptoCard

/-- THE SECOND FORM's CARD OF 'pneumaticlaw53.DistinguishHides'. -/
def distinguishHidesUptoCard : Claim7 := { stood := { row := distinguishHidesUptoRow, standIns := [], harness := (true, "9959c826baf198ffce50579f06e279d843709b97e94ec5b31d1738605335ddcf"), looks := false }, kinds := [], alts := [], laidByText := true, laidKinds := [.data, .data, .data], laidTests := true, laidLooks := .later }
def DistinguishHidesUptoCardSaid : Prop := Claim7.holds Tryz.pinned (.plain (OpenSpec.upto distinguishHidesSpec)) distinguishHidesUptoCard
end Rows
end Go.Proofs.YtggbaapfbgjaeaaGreatDoor
