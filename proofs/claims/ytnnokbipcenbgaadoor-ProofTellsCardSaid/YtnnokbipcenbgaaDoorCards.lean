/-
  DERIVED. GIVEN WITH THE SEED: THE CARDS: each row of YtnnokbipcenbgaaDoorRows.lean that lists a variable, with what it lists TIED to the program's text (the seventh form; the later family's looks); each row that meets fmt, with fmt's text TOLD by the authors' own Lean function (tested against real Go, not proved from fmt's source: count such statements apart). THE CARD IS WHAT COUNTS. Prove the row's statement (the work); the ties are given (YtnnokbipcenbgaaDoorTie.lean); close each card by the builder's one call (the guide's Derived/Test/ToyasCard.lean, 'card_holds'). Laid BY PROGRAM, IN A SANDBOX (cutbox-door.mjs). By AI agents, Wed Nov 11 2026. No macro, syntax, notation, axiom, sorry.
-/
import Derived.Test.YtnnokbipcenbgaaDoorRows
import GoSem.ClaimSeven
namespace Go.Proofs.YtnnokbipcenbgaaDoor
namespace Rows

/-- THE TIED CARD OF 'jackfieldlaw10.ProofNumbers'. -/
def proofNumbersCard : Claim7 := { stood := { row := proofNumbersRow, standIns := [], harness := (true, "6c38d4fedf86c798aa9dc671e475a544655467d99a464a271bfc7a745ad8b700"), looks := true }, kinds := [], alts := [], laidByText := true, laidKinds := [.sentinel, .sentinel, .sentinel, .sentinel, .data], laidTests := true, laidLooks := .later }
def ProofNumbersCardSaid : Prop := Claim7.holds Tryd.pinned (.plain (OpenSpec.ofChange proofNumbersSpec)) proofNumbersCard

/-- THE TIED CARD OF 'jackfieldlaw10.ProofSlips'. -/
def proofSlipsCard : Claim7 := { stood := { row := proofSlipsRow, standIns := [], harness := (true, "6c38d4fedf86c798aa9dc671e475a544655467d99a464a271bfc7a745ad8b700"), looks := true }, kinds := [], alts := [], laidByText := true, laidKinds := [.sentinel, .sentinel, .sentinel, .sentinel, .data], laidTests := true, laidLooks := .later }
def ProofSlipsCardSaid : Prop := Claim7.holds Tryd.pinned (.plain (OpenSpec.ofChange proofSlipsSpec)) proofSlipsCard

/-- THE TIED CARD OF 'jackfieldlaw10.ProofTells'. -/
def proofTellsCard : Claim7 := { stood := { row := proofTellsRow, standIns := [], harness := (true, "6c38d4fedf86c798aa9dc671e475a544655467d99a464a271bfc7a745ad8b700"), looks := true }, kinds := [], alts := [], laidByText := true, laidKinds := [.sentinel, .sentinel, .sentinel, .sentinel, .sentinel, .sentinel, .sentinel, .sentinel, .sentinel, .sentinel, .sentinel, .sentinel, .sentinel, .sentinel, .sentinel, .sentinel, .sentinel, .sentinel, .data], laidTests := true, laidLooks := .later }
def ProofTellsCardSaid : Prop := Claim7.holds Tryd.pinned (.plain (OpenSpec.ofChange proofTellsSpec)) proofTellsCard

/-- THE TIED CARD OF 'jackfieldlaw10.ProofShapes'. -/
def proofShapesCard : Claim7 := { stood := { row := proofShapesRow, standIns := [], harness := (true, "6c38d4fedf86c798aa9dc671e475a544655467d99a464a271bfc7a745ad8b700"), looks := true }, kinds := [], alts := [], laidByText := true, laidKinds := [.sentinel, .sentinel, .sentinel, .sentinel, .data], laidTests := true, laidLooks := .later }
def ProofShapesCardSaid : Prop := Claim7.holds Tryd.pinned (.plain (OpenSpec.ofChange proofShapesSpec)) proofShapesCard

/-- THE SECOND FORM's CARD OF 'jackfieldlaw10.ProofNumbers'. -/
def proofNumbersUptoCard : Claim7 := { stood := { row := proofNumbersUptoRow, standIns := [], harness := (true, "6c38d4fedf86c798aa9dc671e475a544655467d99a464a271bfc7a745ad8b700"), looks := true }, kinds := [], alts := [], laidByText := true, laidKinds := [.sentinel, .sentinel, .sentinel, .sentinel, .data], laidTests := true, laidLooks := .later }
def ProofNumbersUptoCardSaid : Prop := Claim7.holds Tryd.pinned (.plain (OpenSpec.upto proofNumbersSpec)) proofNumbersUptoCard

/-- THE SECOND FORM's CARD OF 'jackfieldlaw10.ProofSlips'. -/
def proofSlipsUptoCard : Claim7 := { stood := { row := proofSlipsUptoRow, standIns := [], harness := (true, "6c38d4fedf86c798aa9dc671e475a544655467d99a464a271bfc7a745ad8b700"), looks := true }, kinds := [], alts := [], laidByText := true, laidKinds := [.sentinel, .sentinel, .sentinel, .sentinel, .data], laidTests := true, laidLooks := .later }
def ProofSlipsUptoCardSaid : Prop := Claim7.holds Tryd.pinned (.plain (OpenSpec.upto proofSlipsSpec)) proofSlipsUptoCard

/-- THE SECOND FORM's CARD OF 'jackfieldlaw10.ProofTells'. -/
def proofTellsUptoCard : Claim7 := { stood := { row := proofTellsUptoRow, standIns := [], harness := (true, "6c38d4fedf86c798aa9dc671e475a544655467d99a464a271bfc7a745ad8b700"), looks := true }, kinds := [], alts := [], laidByText := true, laidKinds := [.sentinel, .sentinel, .sentinel, .sentinel, .sentinel, .sentinel, .sentinel, .sentinel, .sentinel, .sentinel, .sentinel, .sentinel, .sentinel, .sentinel, .sentinel, .sentinel, .sentinel, .sentinel, .data], laidTests := true, laidLooks := .later }
def ProofTellsUptoCardSaid : Prop := Claim7.holds Tryd.pinned (.plain (OpenSpec.upto proofTellsSpec)) proofTellsUptoCard

/-- THE SECOND FORM's CARD OF 'jackfieldlaw10.ProofShapes'. -/
def proofShapesUptoCard : Claim7 := { stood := { row := proofShapesUptoRow, standIns := [], harness := (true, "6c38d4fedf86c798aa9dc671e475a544655467d99a464a271bfc7a745ad8b700"), looks := true }, kinds := [], alts := [], laidByText := true, laidKinds := [.sentinel, .sentinel, .sentinel, .sentinel, .data], laidTests := true, laidLooks := .later }
def ProofShapesUptoCardSaid : Prop := Claim7.holds Tryd.pinned (.plain (OpenSpec.upto proofShapesSpec)) proofShapesUptoCard
end Rows
end Go.Proofs.YtnnokbipcenbgaaDoor
