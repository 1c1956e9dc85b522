/-
  DERIVED. GIVEN WITH THE SEED: THE CARDS: each row of YtipgimmgjdgdeaaDoorRows.lean that lists a variable, with what it lists TIED to the program's text (the seventh form; the later family's looks); each row that meets fmt, with fmt's text TOLD by the authors' own Lean function (tested against real Go, not proved from fmt's source: count such statements apart). THE CARD IS WHAT COUNTS. Prove the row's statement (the work); the ties are given (YtipgimmgjdgdeaaDoorTie.lean); close each card by the builder's one call (the guide's Derived/Test/ToyasCard.lean, 'card_holds'). Laid BY PROGRAM, IN A SANDBOX (cutbox-door.mjs). By AI agents, Wed Nov 11 2026. No macro, syntax, notation, axiom, sorry.
-/
import Derived.Test.YtipgimmgjdgdeaaDoorRows
import GoSem.ClaimSeven
namespace Go.Proofs.YtipgimmgjdgdeaaDoor
namespace Rows

/-- THE TIED CARD OF 'jackfieldlaw11.ReplayWhole'. -/
def replayWholeCard : Claim7 := { stood := { row := replayWholeRow, standIns := [], harness := (true, "5c4ca084d47c9640bbf3493d8939c3f55ab8e3aae4a85bf53d3c21cb858dfe9b"), looks := true }, kinds := [], alts := [], laidByText := true, laidKinds := [.sentinel, .sentinel, .sentinel, .sentinel, .sentinel, .sentinel, .data], laidTests := true, laidLooks := .later }
def ReplayWholeCardSaid : Prop := Claim7.holds Tryd.pinned (.plain (OpenSpec.ofChange replayWholeSpec)) replayWholeCard

/-- THE TIED CARD OF 'jackfieldlaw11.ReplayAcks'. -/
def replayAcksCard : Claim7 := { stood := { row := replayAcksRow, standIns := [], harness := (true, "5c4ca084d47c9640bbf3493d8939c3f55ab8e3aae4a85bf53d3c21cb858dfe9b"), looks := true }, kinds := [], alts := [], laidByText := true, laidKinds := [.sentinel, .sentinel, .sentinel, .sentinel, .sentinel, .sentinel, .data], laidTests := true, laidLooks := .later }
def ReplayAcksCardSaid : Prop := Claim7.holds Tryd.pinned (.plain (OpenSpec.ofChange replayAcksSpec)) replayAcksCard

/-- THE TIED CARD OF 'jackfieldlaw11.ReplayOnce'. -/
def replayOnceCard : Claim7 := { stood := { row := replayOnceRow, standIns := [], harness := (true, "5c4ca084d47c9640bbf3493d8939c3f55ab8e3aae4a85bf53d3c21cb858dfe9b"), looks := true }, kinds := [], alts := [], laidByText := true, laidKinds := [.sentinel, .sentinel, .sentinel, .sentinel, .sentinel, .sentinel, .data], laidTests := true, laidLooks := .later }
def ReplayOnceCardSaid : Prop := Claim7.holds Tryd.pinned (.plain (OpenSpec.ofChange replayOnceSpec)) replayOnceCard

/-- THE TIED CARD OF 'jackfieldlaw11.ReplayRoom'. -/
def replayRoomCard : Claim7 := { stood := { row := replayRoomRow, standIns := [], harness := (true, "5c4ca084d47c9640bbf3493d8939c3f55ab8e3aae4a85bf53d3c21cb858dfe9b"), looks := true }, kinds := [], alts := [], laidByText := true, laidKinds := [.sentinel, .sentinel, .sentinel, .sentinel, .sentinel, .sentinel, .data], laidTests := true, laidLooks := .later }
def ReplayRoomCardSaid : Prop := Claim7.holds Tryd.pinned (.plain (OpenSpec.ofChange replayRoomSpec)) replayRoomCard

/-- THE TIED CARD OF 'jackfieldlaw11.ReplayPlays'. -/
def replayPlaysCard : Claim7 := { stood := { row := replayPlaysRow, standIns := [], harness := (true, "5c4ca084d47c9640bbf3493d8939c3f55ab8e3aae4a85bf53d3c21cb858dfe9b"), looks := true }, kinds := [], alts := [], laidByText := true, laidKinds := [.sentinel, .sentinel, .sentinel, .sentinel, .sentinel, .sentinel, .sentinel, .sentinel, .sentinel, .sentinel, .sentinel, .sentinel, .sentinel, .sentinel, .sentinel, .sentinel, .sentinel, .sentinel, .data], laidTests := true, laidLooks := .later }
def ReplayPlaysCardSaid : Prop := Claim7.holds Tryd.pinned (.plain (OpenSpec.ofChange replayPlaysSpec)) replayPlaysCard

/-- THE TIED CARD OF 'jackfieldlaw12.LinkDeaf'. -/
def linkDeafCard : Claim7 := { stood := { row := linkDeafRow, standIns := [], harness := (true, "5c4ca084d47c9640bbf3493d8939c3f55ab8e3aae4a85bf53d3c21cb858dfe9b"), looks := true }, kinds := [], alts := [], laidByText := true, laidKinds := [.sentinel, .sentinel, .sentinel, .sentinel, .sentinel, .sentinel, .sentinel, .sentinel, .sentinel, .data], laidTests := true, laidLooks := .later }
def LinkDeafCardSaid : Prop := Claim7.holds Tryd.pinned (.plain (OpenSpec.ofChange linkDeafSpec)) linkDeafCard

/-- THE TIED CARD OF 'jackfieldlaw12.LinkWires'. -/
def linkWiresCard : Claim7 := { stood := { row := linkWiresRow, standIns := [], harness := (true, "5c4ca084d47c9640bbf3493d8939c3f55ab8e3aae4a85bf53d3c21cb858dfe9b"), looks := true }, kinds := [], alts := [], laidByText := true, laidKinds := [.sentinel, .sentinel, .sentinel, .sentinel, .sentinel, .sentinel, .sentinel, .sentinel, .sentinel, .data], laidTests := true, laidLooks := .later }
def LinkWiresCardSaid : Prop := Claim7.holds Tryd.pinned (.plain (OpenSpec.ofChange linkWiresSpec)) linkWiresCard

/-- THE TIED CARD OF 'jackfieldlaw12.LinkWhole'. -/
def linkWholeCard : Claim7 := { stood := { row := linkWholeRow, standIns := [], harness := (true, "5c4ca084d47c9640bbf3493d8939c3f55ab8e3aae4a85bf53d3c21cb858dfe9b"), looks := true }, kinds := [], alts := [], laidByText := true, laidKinds := [.sentinel, .sentinel, .sentinel, .sentinel, .sentinel, .sentinel, .sentinel, .sentinel, .sentinel, .data], laidTests := true, laidLooks := .later }
def LinkWholeCardSaid : Prop := Claim7.holds Tryd.pinned (.plain (OpenSpec.ofChange linkWholeSpec)) linkWholeCard

/-- THE TIED CARD OF 'jackfieldlaw12.LinkTimes'. -/
def linkTimesCard : Claim7 := { stood := { row := linkTimesRow, standIns := [], harness := (true, "5c4ca084d47c9640bbf3493d8939c3f55ab8e3aae4a85bf53d3c21cb858dfe9b"), looks := true }, kinds := [], alts := [], laidByText := true, laidKinds := [.sentinel, .sentinel, .sentinel, .sentinel, .sentinel, .sentinel, .sentinel, .sentinel, .sentinel, .data], laidTests := true, laidLooks := .later }
def LinkTimesCardSaid : Prop := Claim7.holds Tryd.pinned (.plain (OpenSpec.ofChange linkTimesSpec)) linkTimesCard

/-- THE SECOND FORM's CARD OF 'jackfieldlaw11.ReplayWhole'. -/
def replayWholeUptoCard : Claim7 := { stood := { row := replayWholeUptoRow, standIns := [], harness := (true, "5c4ca084d47c9640bbf3493d8939c3f55ab8e3aae4a85bf53d3c21cb858dfe9b"), looks := true }, kinds := [], alts := [], laidByText := true, laidKinds := [.sentinel, .sentinel, .sentinel, .sentinel, .sentinel, .sentinel, .data], laidTests := true, laidLooks := .later }
def ReplayWholeUptoCardSaid : Prop := Claim7.holds Tryd.pinned (.plain (OpenSpec.upto replayWholeSpec)) replayWholeUptoCard

/-- THE SECOND FORM's CARD OF 'jackfieldlaw11.ReplayAcks'. -/
def replayAcksUptoCard : Claim7 := { stood := { row := replayAcksUptoRow, standIns := [], harness := (true, "5c4ca084d47c9640bbf3493d8939c3f55ab8e3aae4a85bf53d3c21cb858dfe9b"), looks := true }, kinds := [], alts := [], laidByText := true, laidKinds := [.sentinel, .sentinel, .sentinel, .sentinel, .sentinel, .sentinel, .data], laidTests := true, laidLooks := .later }
def ReplayAcksUptoCardSaid : Prop := Claim7.holds Tryd.pinned (.plain (OpenSpec.upto replayAcksSpec)) replayAcksUptoCard

/-- THE SECOND FORM's CARD OF 'jackfieldlaw11.ReplayOnce'. -/
def replayOnceUptoCard : Claim7 := { stood := { row := replayOnceUptoRow, standIns := [], harness := (true, "5c4ca084d47c9640bbf3493d8939c3f55ab8e3aae4a85bf53d3c21cb858dfe9b"), looks := true }, kinds := [], alts := [], laidByText := true, laidKinds := [.sentinel, .sentinel, .sentinel, .sentinel, .sentinel, .sentinel, .data], laidTests := true, laidLooks := .later }
def ReplayOnceUptoCardSaid : Prop := Claim7.holds Tryd.pinned (.plain (OpenSpec.upto replayOnceSpec)) replayOnceUptoCard

/-- THE SECOND FORM's CARD OF 'jackfieldlaw11.ReplayRoom'. -/
def replayRoomUptoCard : Claim7 := { stood := { row := replayRoomUptoRow, standIns := [], harness := (true, "5c4ca084d47c9640bbf3493d8939c3f55ab8e3aae4a85bf53d3c21cb858dfe9b"), looks := true }, kinds := [], alts := [], laidByText := true, laidKinds := [.sentinel, .sentinel, .sentinel, .sentinel, .sentinel, .sentinel, .data], laidTests := true, laidLooks := .later }
def ReplayRoomUptoCardSaid : Prop := Claim7.holds Tryd.pinned (.plain (OpenSpec.upto replayRoomSpec)) replayRoomUptoCard

/-- THE SECOND FORM's CARD OF 'jackfieldlaw11.ReplayPlays'. -/
def replayPlaysUptoCard : Claim7 := { stood := { row := replayPlaysUptoRow, standIns := [], harness := (true, "5c4ca084d47c9640bbf3493d8939c3f55ab8e3aae4a85bf53d3c21cb858dfe9b"), looks := true }, kinds := [], alts := [], laidByText := true, laidKinds := [.sentinel, .sentinel, .sentinel, .sentinel, .sentinel, .sentinel, .sentinel, .sentinel, .sentinel, .sentinel, .sentinel, .sentinel, .sentinel, .sentinel, .sentinel, .sentinel, .sentinel, .sentinel, .data], laidTests := true, laidLooks := .later }
def ReplayPlaysUptoCardSaid : Prop := Claim7.holds Tryd.pinned (.plain (OpenSpec.upto replayPlaysSpec)) replayPlaysUptoCard

/-- THE SECOND FORM's CARD OF 'jackfieldlaw12.LinkDeaf'. -/
def linkDeafUptoCard : Claim7 := { stood := { row := linkDeafUptoRow, standIns := [], harness := (true, "5c4ca084d47c9640bbf3493d8939c3f55ab8e3aae4a85bf53d3c21cb858dfe9b"), looks := true }, kinds := [], alts := [], laidByText := true, laidKinds := [.sentinel, .sentinel, .sentinel, .sentinel, .sentinel, .sentinel, .sentinel, .sentinel, .sentinel, .data], laidTests := true, laidLooks := .later }
def LinkDeafUptoCardSaid : Prop := Claim7.holds Tryd.pinned (.plain (OpenSpec.upto linkDeafSpec)) linkDeafUptoCard

/-- THE SECOND FORM's CARD OF 'jackfieldlaw12.LinkWires'. -/
def linkWiresUptoCard : Claim7 := { stood := { row := linkWiresUptoRow, standIns := [], harness := (true, "5c4ca084d47c9640bbf3493d8939c3f55ab8e3aae4a85bf53d3c21cb858dfe9b"), looks := true }, kinds := [], alts := [], laidByText := true, laidKinds := [.sentinel, .sentinel, .sentinel, .sentinel, .sentinel, .sentinel, .sentinel, .sentinel, .sentinel, .data], laidTests := true, laidLooks := .later }
def LinkWiresUptoCardSaid : Prop := Claim7.holds Tryd.pinned (.plain (OpenSpec.upto linkWiresSpec)) linkWiresUptoCard

/-- THE SECOND FORM's CARD OF 'jackfieldlaw12.LinkWhole'. -/
def linkWholeUptoCard : Claim7 := { stood := { row := linkWholeUptoRow, standIns := [], harness := (true, "5c4ca084d47c9640bbf3493d8939c3f55ab8e3aae4a85bf53d3c21cb858dfe9b"), looks := true }, kinds := [], alts := [], laidByText := true, laidKinds := [.sentinel, .sentinel, .sentinel, .sentinel, .sentinel, .sentinel, .sentinel, .sentinel, .sentinel, .data], laidTests := true, laidLooks := .later }
def LinkWholeUptoCardSaid : Prop := Claim7.holds Tryd.pinned (.plain (OpenSpec.upto linkWholeSpec)) linkWholeUptoCard

/-- THE SECOND FORM's CARD OF 'jackfieldlaw12.LinkTimes'. -/
def linkTimesUptoCard : Claim7 := { stood := { row := linkTimesUptoRow, standIns := [], harness := (true, "5c4ca084d47c9640bbf3493d8939c3f55ab8e3aae4a85bf53d3c21cb858dfe9b"), looks := true }, kinds := [], alts := [], laidByText := true, laidKinds := [.sentinel, .sentinel, .sentinel, .sentinel, .sentinel, .sentinel, .sentinel, .sentinel, .sentinel, .data], laidTests := true, laidLooks := .later }
def LinkTimesUptoCardSaid : Prop := Claim7.holds Tryd.pinned (.plain (OpenSpec.upto linkTimesSpec)) linkTimesUptoCard
end Rows
end Go.Proofs.YtipgimmgjdgdeaaDoor
