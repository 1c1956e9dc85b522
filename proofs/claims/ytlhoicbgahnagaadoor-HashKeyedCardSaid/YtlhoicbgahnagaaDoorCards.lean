/-
  DERIVED. GIVEN WITH THE SEED: THE CARDS: each row of YtlhoicbgahnagaaDoorRows.lean that lists a variable, with what it lists TIED to the program's text (the seventh form; the later family's looks); each row that meets fmt, with fmt's text TOLD by the authors' own Lean function (tested against real Go, not proved from fmt's source: count such statements apart). THE CARD IS WHAT COUNTS. Prove the row's statement (the work); the ties are given (YtlhoicbgahnagaaDoorTie.lean); close each card by the builder's one call (the guide's Derived/Test/ToyasCard.lean, 'card_holds'). Laid BY PROGRAM, IN A SANDBOX (cutbox-door.mjs). By AI agents, Wed Nov 11 2026. No macro, syntax, notation, axiom, sorry.
-/
import Derived.Test.YtlhoicbgahnagaaDoorRows
import GoSem.ClaimSeven
namespace Go.Proofs.YtlhoicbgahnagaaDoor
namespace Rows

/-- THE TIED CARD OF 'jackfieldlaw02.HashKeyed'. -/
def hashKeyedCard : Claim7 := { stood := { row := hashKeyedRow, standIns := [], harness := (true, "860e41c0f7bfc79aace5a3d2dca564fbc4a663f358655584e565cdc05c919560"), looks := false }, kinds := [], alts := [], laidByText := true, laidKinds := [.data], laidTests := true, laidLooks := .later }
def HashKeyedCardSaid : Prop := Claim7.holds Tryd.pinned (.plain (OpenSpec.ofChange hashKeyedSpec)) hashKeyedCard

/-- THE TIED CARD OF 'jackfieldlaw02.HashLong'. -/
def hashLongCard : Claim7 := { stood := { row := hashLongRow, standIns := [], harness := (true, "860e41c0f7bfc79aace5a3d2dca564fbc4a663f358655584e565cdc05c919560"), looks := false }, kinds := [], alts := [], laidByText := true, laidKinds := [.data], laidTests := true, laidLooks := .later }
def HashLongCardSaid : Prop := Claim7.holds Tryd.pinned (.plain (OpenSpec.ofChange hashLongSpec)) hashLongCard

/-- THE TIED CARD OF 'jackfieldlaw02.HashHexes'. -/
def hashHexesCard : Claim7 := { stood := { row := hashHexesRow, standIns := [], harness := (true, "860e41c0f7bfc79aace5a3d2dca564fbc4a663f358655584e565cdc05c919560"), looks := false }, kinds := [], alts := [], laidByText := true, laidKinds := [.data], laidTests := true, laidLooks := .later }
def HashHexesCardSaid : Prop := Claim7.holds Tryd.pinned (.plain (OpenSpec.ofChange hashHexesSpec)) hashHexesCard

/-- THE TIED CARD OF 'jackfieldlaw02.HashDigests'. -/
def hashDigestsCard : Claim7 := { stood := { row := hashDigestsRow, standIns := [], harness := (true, "860e41c0f7bfc79aace5a3d2dca564fbc4a663f358655584e565cdc05c919560"), looks := false }, kinds := [], alts := [], laidByText := true, laidKinds := [.data], laidTests := true, laidLooks := .later }
def HashDigestsCardSaid : Prop := Claim7.holds Tryd.pinned (.plain (OpenSpec.ofChange hashDigestsSpec)) hashDigestsCard

/-- THE TIED CARD OF 'jackfieldlaw02.HashParts'. -/
def hashPartsCard : Claim7 := { stood := { row := hashPartsRow, standIns := [], harness := (true, "860e41c0f7bfc79aace5a3d2dca564fbc4a663f358655584e565cdc05c919560"), looks := false }, kinds := [], alts := [], laidByText := true, laidKinds := [.data], laidTests := true, laidLooks := .later }
def HashPartsCardSaid : Prop := Claim7.holds Tryd.pinned (.plain (OpenSpec.ofChange hashPartsSpec)) hashPartsCard

/-- THE TIED CARD OF 'jackfieldlaw02.HashChecks'. -/
def hashChecksCard : Claim7 := { stood := { row := hashChecksRow, standIns := [], harness := (true, "860e41c0f7bfc79aace5a3d2dca564fbc4a663f358655584e565cdc05c919560"), looks := false }, kinds := [], alts := [], laidByText := true, laidKinds := [.data], laidTests := true, laidLooks := .later }
def HashChecksCardSaid : Prop := Claim7.holds Tryd.pinned (.plain (OpenSpec.ofChange hashChecksSpec)) hashChecksCard

/-- THE TIED CARD OF 'jackfieldlaw02.HashAlike'. -/
def hashAlikeCard : Claim7 := { stood := { row := hashAlikeRow, standIns := [], harness := (true, "860e41c0f7bfc79aace5a3d2dca564fbc4a663f358655584e565cdc05c919560"), looks := false }, kinds := [], alts := [], laidByText := true, laidKinds := [.data], laidTests := true, laidLooks := .later }
def HashAlikeCardSaid : Prop := Claim7.holds Tryd.pinned (.plain (OpenSpec.ofChange hashAlikeSpec)) hashAlikeCard

/-- THE SECOND FORM's CARD OF 'jackfieldlaw02.HashKeyed'. -/
def hashKeyedUptoCard : Claim7 := { stood := { row := hashKeyedUptoRow, standIns := [], harness := (true, "860e41c0f7bfc79aace5a3d2dca564fbc4a663f358655584e565cdc05c919560"), looks := false }, kinds := [], alts := [], laidByText := true, laidKinds := [.data], laidTests := true, laidLooks := .later }
def HashKeyedUptoCardSaid : Prop := Claim7.holds Tryd.pinned (.plain (OpenSpec.upto hashKeyedSpec)) hashKeyedUptoCard

/-- THE SECOND FORM's CARD OF 'jackfieldlaw02.HashLong'. -/
def hashLongUptoCard : Claim7 := { stood := { row := hashLongUptoRow, standIns := [], harness := (true, "860e41c0f7bfc79aace5a3d2dca564fbc4a663f358655584e565cdc05c919560"), looks := false }, kinds := [], alts := [], laidByText := true, laidKinds := [.data], laidTests := true, laidLooks := .later }
def HashLongUptoCardSaid : Prop := Claim7.holds Tryd.pinned (.plain (OpenSpec.upto hashLongSpec)) hashLongUptoCard

/-- THE SECOND FORM's CARD OF 'jackfieldlaw02.HashHexes'. -/
def hashHexesUptoCard : Claim7 := { stood := { row := hashHexesUptoRow, standIns := [], harness := (true, "860e41c0f7bfc79aace5a3d2dca564fbc4a663f358655584e565cdc05c919560"), looks := false }, kinds := [], alts := [], laidByText := true, laidKinds := [.data], laidTests := true, laidLooks := .later }
def HashHexesUptoCardSaid : Prop := Claim7.holds Tryd.pinned (.plain (OpenSpec.upto hashHexesSpec)) hashHexesUptoCard

/-- THE SECOND FORM's CARD OF 'jackfieldlaw02.HashDigests'. -/
def hashDigestsUptoCard : Claim7 := { stood := { row := hashDigestsUptoRow, standIns := [], harness := (true, "860e41c0f7bfc79aace5a3d2dca564fbc4a663f358655584e565cdc05c919560"), looks := false }, kinds := [], alts := [], laidByText := true, laidKinds := [.data], laidTests := true, laidLooks := .later }
def HashDigestsUptoCardSaid : Prop := Claim7.holds Tryd.pinned (.plain (OpenSpec.upto hashDigestsSpec)) hashDigestsUptoCard

/-- THE SECOND FORM's CARD OF 'jackfieldlaw02.HashParts'. -/
def hashPartsUptoCard : Claim7 := { stood := { row := hashPartsUptoRow, standIns := [], harness := (true, "860e41c0f7bfc79aace5a3d2dca564fbc4a663f358655584e565cdc05c919560"), looks := false }, kinds := [], alts := [], laidByText := true, laidKinds := [.data], laidTests := true, laidLooks := .later }
def HashPartsUptoCardSaid : Prop := Claim7.holds Tryd.pinned (.plain (OpenSpec.upto hashPartsSpec)) hashPartsUptoCard

/-- THE SECOND FORM's CARD OF 'jackfieldlaw02.HashChecks'. -/
def hashChecksUptoCard : Claim7 := { stood := { row := hashChecksUptoRow, standIns := [], harness := (true, "860e41c0f7bfc79aace5a3d2dca564fbc4a663f358655584e565cdc05c919560"), looks := false }, kinds := [], alts := [], laidByText := true, laidKinds := [.data], laidTests := true, laidLooks := .later }
def HashChecksUptoCardSaid : Prop := Claim7.holds Tryd.pinned (.plain (OpenSpec.upto hashChecksSpec)) hashChecksUptoCard

/-- THE SECOND FORM's CARD OF 'jackfieldlaw02.HashAlike'. -/
def hashAlikeUptoCard : Claim7 := { stood := { row := hashAlikeUptoRow, standIns := [], harness := (true, "860e41c0f7bfc79aace5a3d2dca564fbc4a663f358655584e565cdc05c919560"), looks := false }, kinds := [], alts := [], laidByText := true, laidKinds := [.data], laidTests := true, laidLooks := .later }
def HashAlikeUptoCardSaid : Prop := Claim7.holds Tryd.pinned (.plain (OpenSpec.upto hashAlikeSpec)) hashAlikeUptoCard
end Rows
end Go.Proofs.YtlhoicbgahnagaaDoor
