/-
  DERIVED. GIVEN WITH THE SEED: THE CARDS: each row of YtpekagkhgegefaaDoorRows.lean that lists a variable, with what it lists TIED to the program's text (the seventh form; the later family's looks); each row that meets fmt, with fmt's text TOLD by the authors' own Lean function (tested against real Go, not proved from fmt's source: count such statements apart). THE CARD IS WHAT COUNTS. Prove the row's statement (the work); the ties are given (YtpekagkhgegefaaDoorTie.lean); close each card by the builder's one call (the guide's Derived/Test/ToyasCard.lean, 'card_holds'). Laid BY PROGRAM, IN A SANDBOX (cutbox-door.mjs). By AI agents, Wed Nov 11 2026. No macro, syntax, notation, axiom, sorry.
-/
import Derived.Test.YtpekagkhgegefaaDoorRows
import GoSem.ClaimSeven
namespace Go.Proofs.YtpekagkhgegefaaDoor
namespace Rows

/-- THE TIED CARD OF 'jackfieldlaw05.FrameFields'. -/
def frameFieldsCard : Claim7 := { stood := { row := frameFieldsRow, standIns := [], harness := (true, "4fc1bf332aa9d3bee46ca1e26b4e8b9b9f3156c7715aa2a3a9562491855ac1f1"), looks := true }, kinds := [], alts := [], laidByText := true, laidKinds := [.sentinel, .sentinel, .sentinel, .sentinel, .data], laidTests := true, laidLooks := .later }
def FrameFieldsCardSaid : Prop := Claim7.holds Tryd.pinned (.plain (OpenSpec.ofChange frameFieldsSpec)) frameFieldsCard

/-- THE TIED CARD OF 'jackfieldlaw05.FrameRows'. -/
def frameRowsCard : Claim7 := { stood := { row := frameRowsRow, standIns := [], harness := (true, "4fc1bf332aa9d3bee46ca1e26b4e8b9b9f3156c7715aa2a3a9562491855ac1f1"), looks := true }, kinds := [], alts := [], laidByText := true, laidKinds := [.sentinel, .sentinel, .sentinel, .sentinel, .data], laidTests := true, laidLooks := .later }
def FrameRowsCardSaid : Prop := Claim7.holds Tryd.pinned (.plain (OpenSpec.ofChange frameRowsSpec)) frameRowsCard

/-- THE TIED CARD OF 'jackfieldlaw06.ScanFeeds'. -/
def scanFeedsCard : Claim7 := { stood := { row := scanFeedsRow, standIns := [], harness := (true, "4fc1bf332aa9d3bee46ca1e26b4e8b9b9f3156c7715aa2a3a9562491855ac1f1"), looks := true }, kinds := [], alts := [], laidByText := true, laidKinds := [.sentinel, .sentinel, .sentinel, .sentinel, .sentinel, .sentinel, .sentinel, .sentinel, .sentinel, .sentinel, .sentinel, .sentinel, .sentinel, .sentinel, .sentinel, .sentinel, .sentinel, .sentinel, .data], laidTests := true, laidLooks := .later }
def ScanFeedsCardSaid : Prop := Claim7.holds Tryd.pinned (.plain (OpenSpec.ofChange scanFeedsSpec)) scanFeedsCard

/-- THE TIED CARD OF 'jackfieldlaw05.FrameGets'. -/
def frameGetsCard : Claim7 := { stood := { row := frameGetsRow, standIns := [], harness := (true, "4fc1bf332aa9d3bee46ca1e26b4e8b9b9f3156c7715aa2a3a9562491855ac1f1"), looks := true }, kinds := [], alts := [], laidByText := true, laidKinds := [.sentinel, .sentinel, .sentinel, .sentinel, .sentinel, .sentinel, .data], laidTests := true, laidLooks := .later }
def FrameGetsCardSaid : Prop := Claim7.holds Tryd.pinned (.plain (OpenSpec.ofChange frameGetsSpec)) frameGetsCard

/-- THE TIED CARD OF 'jackfieldlaw05.FrameUnlike'. -/
def frameUnlikeCard : Claim7 := { stood := { row := frameUnlikeRow, standIns := [], harness := (true, "4fc1bf332aa9d3bee46ca1e26b4e8b9b9f3156c7715aa2a3a9562491855ac1f1"), looks := true }, kinds := [], alts := [], laidByText := true, laidKinds := [.sentinel, .sentinel, .sentinel, .sentinel, .sentinel, .sentinel, .data], laidTests := true, laidLooks := .later }
def FrameUnlikeCardSaid : Prop := Claim7.holds Tryd.pinned (.plain (OpenSpec.ofChange frameUnlikeSpec)) frameUnlikeCard

/-- THE TIED CARD OF 'jackfieldlaw05.FrameLengths'. -/
def frameLengthsCard : Claim7 := { stood := { row := frameLengthsRow, standIns := [], harness := (true, "4fc1bf332aa9d3bee46ca1e26b4e8b9b9f3156c7715aa2a3a9562491855ac1f1"), looks := true }, kinds := [], alts := [], laidByText := true, laidKinds := [.sentinel, .sentinel, .sentinel, .sentinel, .sentinel, .sentinel, .data], laidTests := true, laidLooks := .later }
def FrameLengthsCardSaid : Prop := Claim7.holds Tryd.pinned (.plain (OpenSpec.ofChange frameLengthsSpec)) frameLengthsCard

/-- THE TIED CARD OF 'jackfieldlaw05.FramePuts'. -/
def framePutsCard : Claim7 := { stood := { row := framePutsRow, standIns := [], harness := (true, "4fc1bf332aa9d3bee46ca1e26b4e8b9b9f3156c7715aa2a3a9562491855ac1f1"), looks := true }, kinds := [], alts := [], laidByText := true, laidKinds := [.sentinel, .sentinel, .sentinel, .sentinel, .sentinel, .sentinel, .sentinel, .sentinel, .sentinel, .sentinel, .sentinel, .sentinel, .sentinel, .sentinel, .sentinel, .sentinel, .sentinel, .sentinel, .data], laidTests := true, laidLooks := .later }
def FramePutsCardSaid : Prop := Claim7.holds Tryd.pinned (.plain (OpenSpec.ofChange framePutsSpec)) framePutsCard

/-- THE TIED CARD OF 'jackfieldlaw06.ScanJoins'. -/
def scanJoinsCard : Claim7 := { stood := { row := scanJoinsRow, standIns := [], harness := (true, "4fc1bf332aa9d3bee46ca1e26b4e8b9b9f3156c7715aa2a3a9562491855ac1f1"), looks := true }, kinds := [], alts := [], laidByText := true, laidKinds := [.sentinel, .sentinel, .sentinel, .sentinel, .sentinel, .sentinel, .sentinel, .data], laidTests := true, laidLooks := .later }
def ScanJoinsCardSaid : Prop := Claim7.holds Tryd.pinned (.plain (OpenSpec.ofChange scanJoinsSpec)) scanJoinsCard

/-- THE TIED CARD OF 'jackfieldlaw06.ScanStays'. -/
def scanStaysCard : Claim7 := { stood := { row := scanStaysRow, standIns := [], harness := (true, "4fc1bf332aa9d3bee46ca1e26b4e8b9b9f3156c7715aa2a3a9562491855ac1f1"), looks := true }, kinds := [], alts := [], laidByText := true, laidKinds := [.sentinel, .sentinel, .sentinel, .sentinel, .sentinel, .sentinel, .sentinel, .data], laidTests := true, laidLooks := .later }
def ScanStaysCardSaid : Prop := Claim7.holds Tryd.pinned (.plain (OpenSpec.ofChange scanStaysSpec)) scanStaysCard

/-- THE TIED CARD OF 'jackfieldlaw06.ScanSplits'. -/
def scanSplitsCard : Claim7 := { stood := { row := scanSplitsRow, standIns := [], harness := (true, "4fc1bf332aa9d3bee46ca1e26b4e8b9b9f3156c7715aa2a3a9562491855ac1f1"), looks := true }, kinds := [], alts := [], laidByText := true, laidKinds := [.sentinel, .sentinel, .sentinel, .sentinel, .sentinel, .sentinel, .sentinel, .sentinel, .sentinel, .sentinel, .sentinel, .sentinel, .sentinel, .sentinel, .sentinel, .sentinel, .sentinel, .sentinel, .data], laidTests := true, laidLooks := .later }
def ScanSplitsCardSaid : Prop := Claim7.holds Tryd.pinned (.plain (OpenSpec.ofChange scanSplitsSpec)) scanSplitsCard

/-- THE TIED CARD OF 'jackfieldlaw06.ScanFirst'. -/
def scanFirstCard : Claim7 := { stood := { row := scanFirstRow, standIns := [], harness := (true, "4fc1bf332aa9d3bee46ca1e26b4e8b9b9f3156c7715aa2a3a9562491855ac1f1"), looks := true }, kinds := [], alts := [], laidByText := true, laidKinds := [.sentinel, .sentinel, .sentinel, .sentinel, .sentinel, .sentinel, .sentinel, .data], laidTests := true, laidLooks := .later }
def ScanFirstCardSaid : Prop := Claim7.holds Tryd.pinned (.plain (OpenSpec.ofChange scanFirstSpec)) scanFirstCard

/-- THE SECOND FORM's CARD OF 'jackfieldlaw05.FrameFields'. -/
def frameFieldsUptoCard : Claim7 := { stood := { row := frameFieldsUptoRow, standIns := [], harness := (true, "4fc1bf332aa9d3bee46ca1e26b4e8b9b9f3156c7715aa2a3a9562491855ac1f1"), looks := true }, kinds := [], alts := [], laidByText := true, laidKinds := [.sentinel, .sentinel, .sentinel, .sentinel, .data], laidTests := true, laidLooks := .later }
def FrameFieldsUptoCardSaid : Prop := Claim7.holds Tryd.pinned (.plain (OpenSpec.upto frameFieldsSpec)) frameFieldsUptoCard

/-- THE SECOND FORM's CARD OF 'jackfieldlaw05.FrameRows'. -/
def frameRowsUptoCard : Claim7 := { stood := { row := frameRowsUptoRow, standIns := [], harness := (true, "4fc1bf332aa9d3bee46ca1e26b4e8b9b9f3156c7715aa2a3a9562491855ac1f1"), looks := true }, kinds := [], alts := [], laidByText := true, laidKinds := [.sentinel, .sentinel, .sentinel, .sentinel, .data], laidTests := true, laidLooks := .later }
def FrameRowsUptoCardSaid : Prop := Claim7.holds Tryd.pinned (.plain (OpenSpec.upto frameRowsSpec)) frameRowsUptoCard

/-- THE SECOND FORM's CARD OF 'jackfieldlaw06.ScanFeeds'. -/
def scanFeedsUptoCard : Claim7 := { stood := { row := scanFeedsUptoRow, standIns := [], harness := (true, "4fc1bf332aa9d3bee46ca1e26b4e8b9b9f3156c7715aa2a3a9562491855ac1f1"), looks := true }, kinds := [], alts := [], laidByText := true, laidKinds := [.sentinel, .sentinel, .sentinel, .sentinel, .sentinel, .sentinel, .sentinel, .sentinel, .sentinel, .sentinel, .sentinel, .sentinel, .sentinel, .sentinel, .sentinel, .sentinel, .sentinel, .sentinel, .data], laidTests := true, laidLooks := .later }
def ScanFeedsUptoCardSaid : Prop := Claim7.holds Tryd.pinned (.plain (OpenSpec.upto scanFeedsSpec)) scanFeedsUptoCard

/-- THE SECOND FORM's CARD OF 'jackfieldlaw05.FrameGets'. -/
def frameGetsUptoCard : Claim7 := { stood := { row := frameGetsUptoRow, standIns := [], harness := (true, "4fc1bf332aa9d3bee46ca1e26b4e8b9b9f3156c7715aa2a3a9562491855ac1f1"), looks := true }, kinds := [], alts := [], laidByText := true, laidKinds := [.sentinel, .sentinel, .sentinel, .sentinel, .sentinel, .sentinel, .data], laidTests := true, laidLooks := .later }
def FrameGetsUptoCardSaid : Prop := Claim7.holds Tryd.pinned (.plain (OpenSpec.upto frameGetsSpec)) frameGetsUptoCard

/-- THE SECOND FORM's CARD OF 'jackfieldlaw05.FrameUnlike'. -/
def frameUnlikeUptoCard : Claim7 := { stood := { row := frameUnlikeUptoRow, standIns := [], harness := (true, "4fc1bf332aa9d3bee46ca1e26b4e8b9b9f3156c7715aa2a3a9562491855ac1f1"), looks := true }, kinds := [], alts := [], laidByText := true, laidKinds := [.sentinel, .sentinel, .sentinel, .sentinel, .sentinel, .sentinel, .data], laidTests := true, laidLooks := .later }
def FrameUnlikeUptoCardSaid : Prop := Claim7.holds Tryd.pinned (.plain (OpenSpec.upto frameUnlikeSpec)) frameUnlikeUptoCard

/-- THE SECOND FORM's CARD OF 'jackfieldlaw05.FrameLengths'. -/
def frameLengthsUptoCard : Claim7 := { stood := { row := frameLengthsUptoRow, standIns := [], harness := (true, "4fc1bf332aa9d3bee46ca1e26b4e8b9b9f3156c7715aa2a3a9562491855ac1f1"), looks := true }, kinds := [], alts := [], laidByText := true, laidKinds := [.sentinel, .sentinel, .sentinel, .sentinel, .sentinel, .sentinel, .data], laidTests := true, laidLooks := .later }
def FrameLengthsUptoCardSaid : Prop := Claim7.holds Tryd.pinned (.plain (OpenSpec.upto frameLengthsSpec)) frameLengthsUptoCard

/-- THE SECOND FORM's CARD OF 'jackfieldlaw05.FramePuts'. -/
def framePutsUptoCard : Claim7 := { stood := { row := framePutsUptoRow, standIns := [], harness := (true, "4fc1bf332aa9d3bee46ca1e26b4e8b9b9f3156c7715aa2a3a9562491855ac1f1"), looks := true }, kinds := [], alts := [], laidByText := true, laidKinds := [.sentinel, .sentinel, .sentinel, .sentinel, .sentinel, .sentinel, .sentinel, .sentinel, .sentinel, .sentinel, .sentinel, .sentinel, .sentinel, .sentinel, .sentinel, .sentinel, .sentinel, .sentinel, .data], laidTests := true, laidLooks := .later }
def FramePutsUptoCardSaid : Prop := Claim7.holds Tryd.pinned (.plain (OpenSpec.upto framePutsSpec)) framePutsUptoCard

/-- THE SECOND FORM's CARD OF 'jackfieldlaw06.ScanJoins'. -/
def scanJoinsUptoCard : Claim7 := { stood := { row := scanJoinsUptoRow, standIns := [], harness := (true, "4fc1bf332aa9d3bee46ca1e26b4e8b9b9f3156c7715aa2a3a9562491855ac1f1"), looks := true }, kinds := [], alts := [], laidByText := true, laidKinds := [.sentinel, .sentinel, .sentinel, .sentinel, .sentinel, .sentinel, .sentinel, .data], laidTests := true, laidLooks := .later }
def ScanJoinsUptoCardSaid : Prop := Claim7.holds Tryd.pinned (.plain (OpenSpec.upto scanJoinsSpec)) scanJoinsUptoCard

/-- THE SECOND FORM's CARD OF 'jackfieldlaw06.ScanStays'. -/
def scanStaysUptoCard : Claim7 := { stood := { row := scanStaysUptoRow, standIns := [], harness := (true, "4fc1bf332aa9d3bee46ca1e26b4e8b9b9f3156c7715aa2a3a9562491855ac1f1"), looks := true }, kinds := [], alts := [], laidByText := true, laidKinds := [.sentinel, .sentinel, .sentinel, .sentinel, .sentinel, .sentinel, .sentinel, .data], laidTests := true, laidLooks := .later }
def ScanStaysUptoCardSaid : Prop := Claim7.holds Tryd.pinned (.plain (OpenSpec.upto scanStaysSpec)) scanStaysUptoCard

/-- THE SECOND FORM's CARD OF 'jackfieldlaw06.ScanSplits'. -/
def scanSplitsUptoCard : Claim7 := { stood := { row := scanSplitsUptoRow, standIns := [], harness := (true, "4fc1bf332aa9d3bee46ca1e26b4e8b9b9f3156c7715aa2a3a9562491855ac1f1"), looks := true }, kinds := [], alts := [], laidByText := true, laidKinds := [.sentinel, .sentinel, .sentinel, .sentinel, .sentinel, .sentinel, .sentinel, .sentinel, .sentinel, .sentinel, .sentinel, .sentinel, .sentinel, .sentinel, .sentinel, .sentinel, .sentinel, .sentinel, .data], laidTests := true, laidLooks := .later }
def ScanSplitsUptoCardSaid : Prop := Claim7.holds Tryd.pinned (.plain (OpenSpec.upto scanSplitsSpec)) scanSplitsUptoCard

/-- THE SECOND FORM's CARD OF 'jackfieldlaw06.ScanFirst'. -/
def scanFirstUptoCard : Claim7 := { stood := { row := scanFirstUptoRow, standIns := [], harness := (true, "4fc1bf332aa9d3bee46ca1e26b4e8b9b9f3156c7715aa2a3a9562491855ac1f1"), looks := true }, kinds := [], alts := [], laidByText := true, laidKinds := [.sentinel, .sentinel, .sentinel, .sentinel, .sentinel, .sentinel, .sentinel, .data], laidTests := true, laidLooks := .later }
def ScanFirstUptoCardSaid : Prop := Claim7.holds Tryd.pinned (.plain (OpenSpec.upto scanFirstSpec)) scanFirstUptoCard
end Rows
end Go.Proofs.YtpekagkhgegefaaDoor
