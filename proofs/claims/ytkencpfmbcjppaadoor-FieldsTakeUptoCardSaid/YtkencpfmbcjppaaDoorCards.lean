/-
  DERIVED. GIVEN WITH THE SEED: THE CARDS: each row of YtkencpfmbcjppaaDoorRows.lean that lists a variable, with what it lists TIED to the program's text (the seventh form; the later family's looks); each row that meets fmt, with fmt's text TOLD by the authors' own Lean function (tested against real Go, not proved from fmt's source: count such statements apart). THE CARD IS WHAT COUNTS. Prove the row's statement (the work); the ties are given (YtkencpfmbcjppaaDoorTie.lean); close each card by the builder's one call (the guide's Derived/Test/ToyasCard.lean, 'card_holds'). Laid BY PROGRAM, IN A SANDBOX (cutbox-door.mjs). By AI agents, Wed Nov 11 2026. No macro, syntax, notation, axiom, sorry.
-/
import Derived.Test.YtkencpfmbcjppaaDoorRows
import GoSem.ClaimSeven
namespace Go.Proofs.YtkencpfmbcjppaaDoor
namespace Rows

/-- THE TIED CARD OF 'jackfieldlaw01.FieldsBack'. -/
def fieldsBackCard : Claim7 := { stood := { row := fieldsBackRow, standIns := [], harness := (true, "cd3e65a7d7a0b03e0e89b98e5f21745b8424b37e28e6eb4c6a0acf9360e46c5b"), looks := true }, kinds := [], alts := [], laidByText := true, laidKinds := [.sentinel, .sentinel, .sentinel, .sentinel, .sentinel], laidTests := true, laidLooks := .later }
def FieldsBackCardSaid : Prop := Claim7.holds Tryd.pinned (.plain (OpenSpec.ofChange fieldsBackSpec)) fieldsBackCard

/-- THE TIED CARD OF 'jackfieldlaw01.FieldsRows'. -/
def fieldsRowsCard : Claim7 := { stood := { row := fieldsRowsRow, standIns := [], harness := (true, "cd3e65a7d7a0b03e0e89b98e5f21745b8424b37e28e6eb4c6a0acf9360e46c5b"), looks := true }, kinds := [], alts := [], laidByText := true, laidKinds := [.sentinel, .sentinel, .sentinel, .sentinel, .sentinel], laidTests := true, laidLooks := .later }
def FieldsRowsCardSaid : Prop := Claim7.holds Tryd.pinned (.plain (OpenSpec.ofChange fieldsRowsSpec)) fieldsRowsCard

/-- THE TIED CARD OF 'jackfieldlaw01.FieldsFloats'. -/
def fieldsFloatsCard : Claim7 := { stood := { row := fieldsFloatsRow, standIns := [], harness := (true, "cd3e65a7d7a0b03e0e89b98e5f21745b8424b37e28e6eb4c6a0acf9360e46c5b"), looks := true }, kinds := [], alts := [], laidByText := true, laidKinds := [.sentinel, .sentinel, .sentinel, .sentinel, .sentinel], laidTests := true, laidLooks := .later }
def FieldsFloatsCardSaid : Prop := Claim7.holds Tryd.pinned (.plain (OpenSpec.ofChange fieldsFloatsSpec)) fieldsFloatsCard

/-- THE TIED CARD OF 'jackfieldlaw01.FieldsMake'. -/
def fieldsMakeCard : Claim7 := { stood := { row := fieldsMakeRow, standIns := [], harness := (true, "cd3e65a7d7a0b03e0e89b98e5f21745b8424b37e28e6eb4c6a0acf9360e46c5b"), looks := true }, kinds := [], alts := [], laidByText := true, laidKinds := [.sentinel, .sentinel, .sentinel, .sentinel, .sentinel, .sentinel, .sentinel, .sentinel, .sentinel, .sentinel, .sentinel, .sentinel, .sentinel, .sentinel, .sentinel, .sentinel, .sentinel, .sentinel], laidTests := true, laidLooks := .later }
def FieldsMakeCardSaid : Prop := Claim7.holds Tryd.pinned (.plain (OpenSpec.ofChange fieldsMakeSpec)) fieldsMakeCard

/-- THE TIED CARD OF 'jackfieldlaw01.FieldsSizes'. -/
def fieldsSizesCard : Claim7 := { stood := { row := fieldsSizesRow, standIns := [], harness := (true, "cd3e65a7d7a0b03e0e89b98e5f21745b8424b37e28e6eb4c6a0acf9360e46c5b"), looks := true }, kinds := [], alts := [], laidByText := true, laidKinds := [.sentinel, .sentinel, .sentinel, .sentinel, .sentinel], laidTests := true, laidLooks := .later }
def FieldsSizesCardSaid : Prop := Claim7.holds Tryd.pinned (.plain (OpenSpec.ofChange fieldsSizesSpec)) fieldsSizesCard

/-- THE TIED CARD OF 'jackfieldlaw01.FieldsTake'. -/
def fieldsTakeCard : Claim7 := { stood := { row := fieldsTakeRow, standIns := [], harness := (true, "cd3e65a7d7a0b03e0e89b98e5f21745b8424b37e28e6eb4c6a0acf9360e46c5b"), looks := true }, kinds := [], alts := [], laidByText := true, laidKinds := [.sentinel, .sentinel, .sentinel, .sentinel, .sentinel, .sentinel, .sentinel, .sentinel, .sentinel, .sentinel, .sentinel, .sentinel, .sentinel, .sentinel, .sentinel, .sentinel, .sentinel, .sentinel], laidTests := true, laidLooks := .later }
def FieldsTakeCardSaid : Prop := Claim7.holds Tryd.pinned (.plain (OpenSpec.ofChange fieldsTakeSpec)) fieldsTakeCard

/-- THE TIED CARD OF 'jackfieldlaw01.FieldsCuts'. -/
def fieldsCutsCard : Claim7 := { stood := { row := fieldsCutsRow, standIns := [], harness := (true, "cd3e65a7d7a0b03e0e89b98e5f21745b8424b37e28e6eb4c6a0acf9360e46c5b"), looks := true }, kinds := [], alts := [], laidByText := true, laidKinds := [.sentinel, .sentinel, .sentinel, .sentinel, .sentinel], laidTests := true, laidLooks := .later }
def FieldsCutsCardSaid : Prop := Claim7.holds Tryd.pinned (.plain (OpenSpec.ofChange fieldsCutsSpec)) fieldsCutsCard

/-- THE TIED CARD OF 'jackfieldlaw01.FieldsGrow'. -/
def fieldsGrowCard : Claim7 := { stood := { row := fieldsGrowRow, standIns := [], harness := (true, "cd3e65a7d7a0b03e0e89b98e5f21745b8424b37e28e6eb4c6a0acf9360e46c5b"), looks := true }, kinds := [], alts := [], laidByText := true, laidKinds := [.sentinel, .sentinel, .sentinel, .sentinel, .sentinel], laidTests := true, laidLooks := .later }
def FieldsGrowCardSaid : Prop := Claim7.holds Tryd.pinned (.plain (OpenSpec.ofChange fieldsGrowSpec)) fieldsGrowCard

/-- THE SECOND FORM's CARD OF 'jackfieldlaw01.FieldsBack'. -/
def fieldsBackUptoCard : Claim7 := { stood := { row := fieldsBackUptoRow, standIns := [], harness := (true, "cd3e65a7d7a0b03e0e89b98e5f21745b8424b37e28e6eb4c6a0acf9360e46c5b"), looks := true }, kinds := [], alts := [], laidByText := true, laidKinds := [.sentinel, .sentinel, .sentinel, .sentinel, .sentinel], laidTests := true, laidLooks := .later }
def FieldsBackUptoCardSaid : Prop := Claim7.holds Tryd.pinned (.plain (OpenSpec.upto fieldsBackSpec)) fieldsBackUptoCard

/-- THE SECOND FORM's CARD OF 'jackfieldlaw01.FieldsRows'. -/
def fieldsRowsUptoCard : Claim7 := { stood := { row := fieldsRowsUptoRow, standIns := [], harness := (true, "cd3e65a7d7a0b03e0e89b98e5f21745b8424b37e28e6eb4c6a0acf9360e46c5b"), looks := true }, kinds := [], alts := [], laidByText := true, laidKinds := [.sentinel, .sentinel, .sentinel, .sentinel, .sentinel], laidTests := true, laidLooks := .later }
def FieldsRowsUptoCardSaid : Prop := Claim7.holds Tryd.pinned (.plain (OpenSpec.upto fieldsRowsSpec)) fieldsRowsUptoCard

/-- THE SECOND FORM's CARD OF 'jackfieldlaw01.FieldsFloats'. -/
def fieldsFloatsUptoCard : Claim7 := { stood := { row := fieldsFloatsUptoRow, standIns := [], harness := (true, "cd3e65a7d7a0b03e0e89b98e5f21745b8424b37e28e6eb4c6a0acf9360e46c5b"), looks := true }, kinds := [], alts := [], laidByText := true, laidKinds := [.sentinel, .sentinel, .sentinel, .sentinel, .sentinel], laidTests := true, laidLooks := .later }
def FieldsFloatsUptoCardSaid : Prop := Claim7.holds Tryd.pinned (.plain (OpenSpec.upto fieldsFloatsSpec)) fieldsFloatsUptoCard

/-- THE SECOND FORM's CARD OF 'jackfieldlaw01.FieldsMake'. -/
def fieldsMakeUptoCard : Claim7 := { stood := { row := fieldsMakeUptoRow, standIns := [], harness := (true, "cd3e65a7d7a0b03e0e89b98e5f21745b8424b37e28e6eb4c6a0acf9360e46c5b"), looks := true }, kinds := [], alts := [], laidByText := true, laidKinds := [.sentinel, .sentinel, .sentinel, .sentinel, .sentinel, .sentinel, .sentinel, .sentinel, .sentinel, .sentinel, .sentinel, .sentinel, .sentinel, .sentinel, .sentinel, .sentinel, .sentinel, .sentinel], laidTests := true, laidLooks := .later }
def FieldsMakeUptoCardSaid : Prop := Claim7.holds Tryd.pinned (.plain (OpenSpec.upto fieldsMakeSpec)) fieldsMakeUptoCard

/-- THE SECOND FORM's CARD OF 'jackfieldlaw01.FieldsSizes'. -/
def fieldsSizesUptoCard : Claim7 := { stood := { row := fieldsSizesUptoRow, standIns := [], harness := (true, "cd3e65a7d7a0b03e0e89b98e5f21745b8424b37e28e6eb4c6a0acf9360e46c5b"), looks := true }, kinds := [], alts := [], laidByText := true, laidKinds := [.sentinel, .sentinel, .sentinel, .sentinel, .sentinel], laidTests := true, laidLooks := .later }
def FieldsSizesUptoCardSaid : Prop := Claim7.holds Tryd.pinned (.plain (OpenSpec.upto fieldsSizesSpec)) fieldsSizesUptoCard

/-- THE SECOND FORM's CARD OF 'jackfieldlaw01.FieldsTake'. -/
def fieldsTakeUptoCard : Claim7 := { stood := { row := fieldsTakeUptoRow, standIns := [], harness := (true, "cd3e65a7d7a0b03e0e89b98e5f21745b8424b37e28e6eb4c6a0acf9360e46c5b"), looks := true }, kinds := [], alts := [], laidByText := true, laidKinds := [.sentinel, .sentinel, .sentinel, .sentinel, .sentinel, .sentinel, .sentinel, .sentinel, .sentinel, .sentinel, .sentinel, .sentinel, .sentinel, .sentinel, .sentinel, .sentinel, .sentinel, .sentinel], laidTests := true, laidLooks := .later }
def FieldsTakeUptoCardSaid : Prop := Claim7.holds Tryd.pinned (.plain (OpenSpec.upto fieldsTakeSpec)) fieldsTakeUptoCard

/-- THE SECOND FORM's CARD OF 'jackfieldlaw01.FieldsCuts'. -/
def fieldsCutsUptoCard : Claim7 := { stood := { row := fieldsCutsUptoRow, standIns := [], harness := (true, "cd3e65a7d7a0b03e0e89b98e5f21745b8424b37e28e6eb4c6a0acf9360e46c5b"), looks := true }, kinds := [], alts := [], laidByText := true, laidKinds := [.sentinel, .sentinel, .sentinel, .sentinel, .sentinel], laidTests := true, laidLooks := .later }
def FieldsCutsUptoCardSaid : Prop := Claim7.holds Tryd.pinned (.plain (OpenSpec.upto fieldsCutsSpec)) fieldsCutsUptoCard

/-- THE SECOND FORM's CARD OF 'jackfieldlaw01.FieldsGrow'. -/
def fieldsGrowUptoCard : Claim7 := { stood := { row := fieldsGrowUptoRow, standIns := [], harness := (true, "cd3e65a7d7a0b03e0e89b98e5f21745b8424b37e28e6eb4c6a0acf9360e46c5b"), looks := true }, kinds := [], alts := [], laidByText := true, laidKinds := [.sentinel, .sentinel, .sentinel, .sentinel, .sentinel], laidTests := true, laidLooks := .later }
def FieldsGrowUptoCardSaid : Prop := Claim7.holds Tryd.pinned (.plain (OpenSpec.upto fieldsGrowSpec)) fieldsGrowUptoCard
end Rows
end Go.Proofs.YtkencpfmbcjppaaDoor
