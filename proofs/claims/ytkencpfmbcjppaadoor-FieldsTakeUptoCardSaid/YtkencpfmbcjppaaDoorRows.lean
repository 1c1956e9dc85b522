/-
  NARROWER THAN 'FOR EVERY INPUT', by the rows' own cells (each row's printed sentence says how): FieldsBack: laid · FieldsRows: laid · FieldsFloats: laid · FieldsMake: laid · FieldsSizes: laid · FieldsTake: laid · FieldsCuts: laid · FieldsGrow: laid.
  DERIVED. THE GIVEN ROWS OF THIS SEAT. 8 by the template 'for every input the law returns true; each argument reads behind the call as it read before'; 0 by the template 'total and deterministic' (their statements: YtkencpfmbcjppaaDoorTotals.lean).
  GIVEN WITH THE SEED: the statements are not yours to turn. If you find one false, say at which input.
  Laid BY PROGRAM, IN A SANDBOX (cutbox-rows.mjs): the forced cells as the released guide's own fill.sh prints them over the translation ed5ece6673413221… (all of the seat's roots in one cut). By AI agents, Wed Nov 11 2026. No macro, syntax, notation, axiom, sorry.
-/
import Derived.Test.YtkencpfmbcjppaaDoorChecked
import GoSem.Claim
import GoSem.ClaimJoined
import GoSem.ClaimMapViews
import Derived.JoinedTies
import Derived.KernelRfl
namespace Go.Proofs.YtkencpfmbcjppaaDoor
/- THE CELL 'sum', in the pinned program and in every row, IS THE sha256 OF THE DUMP (.gsa) THAT YtkencpfmbcjppaaDoorProg.lean LOADS. Nothing in Lean hashes anything: it is a label: what it is worth is what the hold of that sum in a sandbox is worth. -/
noncomputable def Tryd.pinned : Pinned := { name := "ytkencpfmbcjppaadoor", sum := "ed5ece6673413221ee9aa0b6e73f01e4dc61534b03d1d3695d23b9aca7b173b2", checked := Tryd.checked }
namespace Rows
def none {H : Type} : Left H := { results := [], args := [] }

/- WHAT THE LISTED PACKAGE-LEVEL VARIABLES READ AS WHEN THE CALL BEGINS. Each datum BY PROGRAM (the guide's laid-datum.mjs) off the statement by which the dump's own 'gosem.cut.vars' lays the variable. In a bare row this is a premise. The card (YtkencpfmbcjppaaDoorCards.lean) ties it to the program's text. -/
def laid_jackfield_api_ErrRange {H : Type} : DataW H := .iface "*errors.errorString" (.ptr (.agg [.lit (.string [106, 97, 99, 107, 102, 105, 101, 108, 100, 58, 32, 114, 97, 110, 103, 101])]))
def laid_jackfield_api_ErrShort {H : Type} : DataW H := .iface "*errors.errorString" (.ptr (.agg [.lit (.string [106, 97, 99, 107, 102, 105, 101, 108, 100, 58, 32, 115, 104, 111, 114, 116])]))
def laid_jackfield_api_ErrLong {H : Type} : DataW H := .iface "*errors.errorString" (.ptr (.agg [.lit (.string [106, 97, 99, 107, 102, 105, 101, 108, 100, 58, 32, 108, 111, 110, 103])]))
def laid_jackfield_api_ErrTail {H : Type} : DataW H := .iface "*errors.errorString" (.ptr (.agg [.lit (.string [106, 97, 99, 107, 102, 105, 101, 108, 100, 58, 32, 116, 97, 105, 108])]))
def laid_jackfield_api_ErrState {H : Type} : DataW H := .iface "*errors.errorString" (.ptr (.agg [.lit (.string [106, 97, 99, 107, 102, 105, 101, 108, 100, 58, 32, 115, 116, 97, 116, 101])]))
def laid_jackfield_api_ErrBroken {H : Type} : DataW H := .iface "*errors.errorString" (.ptr (.agg [.lit (.string [106, 97, 99, 107, 102, 105, 101, 108, 100, 58, 32, 98, 114, 111, 107, 101, 110])]))
def laid_jackfield_api_ErrPower {H : Type} : DataW H := .iface "*errors.errorString" (.ptr (.agg [.lit (.string [106, 97, 99, 107, 102, 105, 101, 108, 100, 58, 32, 112, 111, 119, 101, 114])]))
def laid_jackfield_api_ErrFrame {H : Type} : DataW H := .iface "*errors.errorString" (.ptr (.agg [.lit (.string [106, 97, 99, 107, 102, 105, 101, 108, 100, 58, 32, 102, 114, 97, 109, 101])]))
def laid_jackfield_api_ErrFull {H : Type} : DataW H := .iface "*errors.errorString" (.ptr (.agg [.lit (.string [106, 97, 99, 107, 102, 105, 101, 108, 100, 58, 32, 102, 117, 108, 108])]))
def laid_jackfield_api_ErrGap {H : Type} : DataW H := .iface "*errors.errorString" (.ptr (.agg [.lit (.string [106, 97, 99, 107, 102, 105, 101, 108, 100, 58, 32, 103, 97, 112])]))
def laid_jackfield_api_ErrName {H : Type} : DataW H := .iface "*errors.errorString" (.ptr (.agg [.lit (.string [106, 97, 99, 107, 102, 105, 101, 108, 100, 58, 32, 110, 97, 109, 101])]))
def laid_jackfield_api_ErrTaken {H : Type} : DataW H := .iface "*errors.errorString" (.ptr (.agg [.lit (.string [106, 97, 99, 107, 102, 105, 101, 108, 100, 58, 32, 116, 97, 107, 101, 110])]))
def laid_jackfield_api_ErrNone {H : Type} : DataW H := .iface "*errors.errorString" (.ptr (.agg [.lit (.string [106, 97, 99, 107, 102, 105, 101, 108, 100, 58, 32, 110, 111, 110, 101])]))
def laid_jackfield_api_ErrOwner {H : Type} : DataW H := .iface "*errors.errorString" (.ptr (.agg [.lit (.string [106, 97, 99, 107, 102, 105, 101, 108, 100, 58, 32, 111, 119, 110, 101, 114])]))
def laid_jackfield_api_ErrProof {H : Type} : DataW H := .iface "*errors.errorString" (.ptr (.agg [.lit (.string [106, 97, 99, 107, 102, 105, 101, 108, 100, 58, 32, 112, 114, 111, 111, 102])]))
def laid_jackfield_api_ErrWindow {H : Type} : DataW H := .iface "*errors.errorString" (.ptr (.agg [.lit (.string [106, 97, 99, 107, 102, 105, 101, 108, 100, 58, 32, 119, 105, 110, 100, 111, 119])]))
def laid_jackfield_api_ErrStream {H : Type} : DataW H := .iface "*errors.errorString" (.ptr (.agg [.lit (.string [106, 97, 99, 107, 102, 105, 101, 108, 100, 58, 32, 115, 116, 114, 101, 97, 109])]))
def laid_jackfield_api_ErrBusy {H : Type} : DataW H := .iface "*errors.errorString" (.ptr (.agg [.lit (.string [106, 97, 99, 107, 102, 105, 101, 108, 100, 58, 32, 98, 117, 115, 121])]))

/-- 'jackfieldlaw01.FieldsBack': WHATEVER THE INPUT: true; the input reads as it did. -/
def fieldsBackSpec : ChangeSpec := { name := "fieldsBack", fn := fun _ => fun
  | [d1, d2, d3] => { results := [.lit (.bool true)], args := [d1, d2, d3] }
  | _ => none }
def fieldsBackRow : OpenClaim := { program := "ytkencpfmbcjppaadoor", sum := "ed5ece6673413221ee9aa0b6e73f01e4dc61534b03d1d3695d23b9aca7b173b2", func := "jackfield/jackfieldlaw01.FieldsBack", spec := "fieldsBack", inPlace := ["internal/bytealg.IndexByteString", "math.Float64bits", "math.Float64frombits"], named := ["jackfield/api.ErrState", "jackfield/api.ErrLong", "jackfield/api.ErrRange", "jackfield/api.ErrTail", "jackfield/api.ErrShort"], apart := false, laid := [("jackfield/api.ErrRange", laid_jackfield_api_ErrRange), ("jackfield/api.ErrShort", laid_jackfield_api_ErrShort), ("jackfield/api.ErrLong", laid_jackfield_api_ErrLong), ("jackfield/api.ErrTail", laid_jackfield_api_ErrTail), ("jackfield/api.ErrState", laid_jackfield_api_ErrState)] }
def FieldsBackSaid : Prop := fieldsBackRow.holds Tryd.pinned (OpenSpec.ofChange fieldsBackSpec)

/-- ITS FALSE NEIGHBOUR: 'it returns false'. Refute it at one input. -/
def fieldsBackWrong : ChangeSpec := { name := "fieldsBack", fn := fun _ => fun
  | [d1, d2, d3] => { results := [.lit (.bool false)], args := [d1, d2, d3] }
  | _ => none }
def FieldsBackWrongFalsely : Prop := fieldsBackRow.holds Tryd.pinned (OpenSpec.ofChange fieldsBackWrong)

/-- 'jackfieldlaw01.FieldsRows': WHATEVER THE INPUT: true; the input reads as it did. -/
def fieldsRowsSpec : ChangeSpec := { name := "fieldsRows", fn := fun _ => fun
  | [d1, d2, d3] => { results := [.lit (.bool true)], args := [d1, d2, d3] }
  | _ => none }
def fieldsRowsRow : OpenClaim := { program := "ytkencpfmbcjppaadoor", sum := "ed5ece6673413221ee9aa0b6e73f01e4dc61534b03d1d3695d23b9aca7b173b2", func := "jackfield/jackfieldlaw01.FieldsRows", spec := "fieldsRows", inPlace := ["internal/bytealg.IndexByteString", "math.Float64bits", "math.Float64frombits"], named := ["jackfield/api.ErrState", "jackfield/api.ErrLong", "jackfield/api.ErrRange", "jackfield/api.ErrTail", "jackfield/api.ErrShort"], apart := false, laid := [("jackfield/api.ErrRange", laid_jackfield_api_ErrRange), ("jackfield/api.ErrShort", laid_jackfield_api_ErrShort), ("jackfield/api.ErrLong", laid_jackfield_api_ErrLong), ("jackfield/api.ErrTail", laid_jackfield_api_ErrTail), ("jackfield/api.ErrState", laid_jackfield_api_ErrState)] }
def FieldsRowsSaid : Prop := fieldsRowsRow.holds Tryd.pinned (OpenSpec.ofChange fieldsRowsSpec)

/-- ITS FALSE NEIGHBOUR: 'it returns false'. Refute it at one input. -/
def fieldsRowsWrong : ChangeSpec := { name := "fieldsRows", fn := fun _ => fun
  | [d1, d2, d3] => { results := [.lit (.bool false)], args := [d1, d2, d3] }
  | _ => none }
def FieldsRowsWrongFalsely : Prop := fieldsRowsRow.holds Tryd.pinned (OpenSpec.ofChange fieldsRowsWrong)

/-- 'jackfieldlaw01.FieldsFloats': WHATEVER THE INPUT: true; the input reads as it did. -/
def fieldsFloatsSpec : ChangeSpec := { name := "fieldsFloats", fn := fun _ => fun
  | [d] => { results := [.lit (.bool true)], args := [d] }
  | _ => none }
def fieldsFloatsRow : OpenClaim := { program := "ytkencpfmbcjppaadoor", sum := "ed5ece6673413221ee9aa0b6e73f01e4dc61534b03d1d3695d23b9aca7b173b2", func := "jackfield/jackfieldlaw01.FieldsFloats", spec := "fieldsFloats", inPlace := ["internal/bytealg.IndexByteString", "math.Float64bits", "math.Float64frombits"], named := ["jackfield/api.ErrState", "jackfield/api.ErrLong", "jackfield/api.ErrRange", "jackfield/api.ErrTail", "jackfield/api.ErrShort"], apart := false, laid := [("jackfield/api.ErrRange", laid_jackfield_api_ErrRange), ("jackfield/api.ErrShort", laid_jackfield_api_ErrShort), ("jackfield/api.ErrLong", laid_jackfield_api_ErrLong), ("jackfield/api.ErrTail", laid_jackfield_api_ErrTail), ("jackfield/api.ErrState", laid_jackfield_api_ErrState)] }
def FieldsFloatsSaid : Prop := fieldsFloatsRow.holds Tryd.pinned (OpenSpec.ofChange fieldsFloatsSpec)

/-- ITS FALSE NEIGHBOUR: 'it returns false'. Refute it at one input. -/
def fieldsFloatsWrong : ChangeSpec := { name := "fieldsFloats", fn := fun _ => fun
  | [d] => { results := [.lit (.bool false)], args := [d] }
  | _ => none }
def FieldsFloatsWrongFalsely : Prop := fieldsFloatsRow.holds Tryd.pinned (OpenSpec.ofChange fieldsFloatsWrong)

/-- 'jackfieldlaw01.FieldsMake': WHATEVER THE INPUT: true; the input reads as it did. -/
def fieldsMakeSpec : ChangeSpec := { name := "fieldsMake", fn := fun _ => fun
  | [d1, d2] => { results := [.lit (.bool true)], args := [d1, d2] }
  | _ => none }
def fieldsMakeRow : OpenClaim := { program := "ytkencpfmbcjppaadoor", sum := "ed5ece6673413221ee9aa0b6e73f01e4dc61534b03d1d3695d23b9aca7b173b2", func := "jackfield/jackfieldlaw01.FieldsMake", spec := "fieldsMake", inPlace := ["internal/bytealg.IndexByteString", "math.Float64bits", "math.Float64frombits"], named := ["jackfield/api.ErrState", "jackfield/api.ErrLong", "jackfield/api.ErrRange", "jackfield/api.ErrTail", "jackfield/api.ErrShort", "jackfield/api.ErrBroken", "jackfield/api.ErrPower", "jackfield/api.ErrFrame", "jackfield/api.ErrFull", "jackfield/api.ErrGap", "jackfield/api.ErrName", "jackfield/api.ErrTaken", "jackfield/api.ErrNone", "jackfield/api.ErrOwner", "jackfield/api.ErrProof", "jackfield/api.ErrWindow", "jackfield/api.ErrStream", "jackfield/api.ErrBusy"], apart := false, laid := [("jackfield/api.ErrRange", laid_jackfield_api_ErrRange), ("jackfield/api.ErrShort", laid_jackfield_api_ErrShort), ("jackfield/api.ErrLong", laid_jackfield_api_ErrLong), ("jackfield/api.ErrTail", laid_jackfield_api_ErrTail), ("jackfield/api.ErrBroken", laid_jackfield_api_ErrBroken), ("jackfield/api.ErrPower", laid_jackfield_api_ErrPower), ("jackfield/api.ErrFrame", laid_jackfield_api_ErrFrame), ("jackfield/api.ErrFull", laid_jackfield_api_ErrFull), ("jackfield/api.ErrGap", laid_jackfield_api_ErrGap), ("jackfield/api.ErrName", laid_jackfield_api_ErrName), ("jackfield/api.ErrTaken", laid_jackfield_api_ErrTaken), ("jackfield/api.ErrNone", laid_jackfield_api_ErrNone), ("jackfield/api.ErrOwner", laid_jackfield_api_ErrOwner), ("jackfield/api.ErrProof", laid_jackfield_api_ErrProof), ("jackfield/api.ErrWindow", laid_jackfield_api_ErrWindow), ("jackfield/api.ErrStream", laid_jackfield_api_ErrStream), ("jackfield/api.ErrState", laid_jackfield_api_ErrState), ("jackfield/api.ErrBusy", laid_jackfield_api_ErrBusy)] }
def FieldsMakeSaid : Prop := fieldsMakeRow.holds Tryd.pinned (OpenSpec.ofChange fieldsMakeSpec)

/-- ITS FALSE NEIGHBOUR: 'it returns false'. Refute it at one input. -/
def fieldsMakeWrong : ChangeSpec := { name := "fieldsMake", fn := fun _ => fun
  | [d1, d2] => { results := [.lit (.bool false)], args := [d1, d2] }
  | _ => none }
def FieldsMakeWrongFalsely : Prop := fieldsMakeRow.holds Tryd.pinned (OpenSpec.ofChange fieldsMakeWrong)

/-- 'jackfieldlaw01.FieldsSizes': WHATEVER THE INPUT: true; the input reads as it did. -/
def fieldsSizesSpec : ChangeSpec := { name := "fieldsSizes", fn := fun _ => fun
  | [d1, d2] => { results := [.lit (.bool true)], args := [d1, d2] }
  | _ => none }
def fieldsSizesRow : OpenClaim := { program := "ytkencpfmbcjppaadoor", sum := "ed5ece6673413221ee9aa0b6e73f01e4dc61534b03d1d3695d23b9aca7b173b2", func := "jackfield/jackfieldlaw01.FieldsSizes", spec := "fieldsSizes", inPlace := ["internal/bytealg.IndexByteString", "math.Float64bits", "math.Float64frombits"], named := ["jackfield/api.ErrState", "jackfield/api.ErrLong", "jackfield/api.ErrRange", "jackfield/api.ErrTail", "jackfield/api.ErrShort"], apart := false, laid := [("jackfield/api.ErrRange", laid_jackfield_api_ErrRange), ("jackfield/api.ErrShort", laid_jackfield_api_ErrShort), ("jackfield/api.ErrLong", laid_jackfield_api_ErrLong), ("jackfield/api.ErrTail", laid_jackfield_api_ErrTail), ("jackfield/api.ErrState", laid_jackfield_api_ErrState)] }
def FieldsSizesSaid : Prop := fieldsSizesRow.holds Tryd.pinned (OpenSpec.ofChange fieldsSizesSpec)

/-- ITS FALSE NEIGHBOUR: 'it returns false'. Refute it at one input. -/
def fieldsSizesWrong : ChangeSpec := { name := "fieldsSizes", fn := fun _ => fun
  | [d1, d2] => { results := [.lit (.bool false)], args := [d1, d2] }
  | _ => none }
def FieldsSizesWrongFalsely : Prop := fieldsSizesRow.holds Tryd.pinned (OpenSpec.ofChange fieldsSizesWrong)

/-- 'jackfieldlaw01.FieldsTake': WHATEVER THE INPUT: true; the input reads as it did. -/
def fieldsTakeSpec : ChangeSpec := { name := "fieldsTake", fn := fun _ => fun
  | [d1, d2] => { results := [.lit (.bool true)], args := [d1, d2] }
  | _ => none }
def fieldsTakeRow : OpenClaim := { program := "ytkencpfmbcjppaadoor", sum := "ed5ece6673413221ee9aa0b6e73f01e4dc61534b03d1d3695d23b9aca7b173b2", func := "jackfield/jackfieldlaw01.FieldsTake", spec := "fieldsTake", inPlace := ["internal/bytealg.IndexByteString", "math.Float64bits", "math.Float64frombits"], named := ["jackfield/api.ErrState", "jackfield/api.ErrLong", "jackfield/api.ErrRange", "jackfield/api.ErrTail", "jackfield/api.ErrShort", "jackfield/api.ErrBroken", "jackfield/api.ErrPower", "jackfield/api.ErrFrame", "jackfield/api.ErrFull", "jackfield/api.ErrGap", "jackfield/api.ErrName", "jackfield/api.ErrTaken", "jackfield/api.ErrNone", "jackfield/api.ErrOwner", "jackfield/api.ErrProof", "jackfield/api.ErrWindow", "jackfield/api.ErrStream", "jackfield/api.ErrBusy"], apart := false, laid := [("jackfield/api.ErrRange", laid_jackfield_api_ErrRange), ("jackfield/api.ErrShort", laid_jackfield_api_ErrShort), ("jackfield/api.ErrLong", laid_jackfield_api_ErrLong), ("jackfield/api.ErrTail", laid_jackfield_api_ErrTail), ("jackfield/api.ErrBroken", laid_jackfield_api_ErrBroken), ("jackfield/api.ErrPower", laid_jackfield_api_ErrPower), ("jackfield/api.ErrFrame", laid_jackfield_api_ErrFrame), ("jackfield/api.ErrFull", laid_jackfield_api_ErrFull), ("jackfield/api.ErrGap", laid_jackfield_api_ErrGap), ("jackfield/api.ErrName", laid_jackfield_api_ErrName), ("jackfield/api.ErrTaken", laid_jackfield_api_ErrTaken), ("jackfield/api.ErrNone", laid_jackfield_api_ErrNone), ("jackfield/api.ErrOwner", laid_jackfield_api_ErrOwner), ("jackfield/api.ErrProof", laid_jackfield_api_ErrProof), ("jackfield/api.ErrWindow", laid_jackfield_api_ErrWindow), ("jackfield/api.ErrStream", laid_jackfield_api_ErrStream), ("jackfield/api.ErrState", laid_jackfield_api_ErrState), ("jackfield/api.ErrBusy", laid_jackfield_api_ErrBusy)] }
def FieldsTakeSaid : Prop := fieldsTakeRow.holds Tryd.pinned (OpenSpec.ofChange fieldsTakeSpec)

/-- ITS FALSE NEIGHBOUR: 'it returns false'. Refute it at one input. -/
def fieldsTakeWrong : ChangeSpec := { name := "fieldsTake", fn := fun _ => fun
  | [d1, d2] => { results := [.lit (.bool false)], args := [d1, d2] }
  | _ => none }
def FieldsTakeWrongFalsely : Prop := fieldsTakeRow.holds Tryd.pinned (OpenSpec.ofChange fieldsTakeWrong)

/-- 'jackfieldlaw01.FieldsCuts': WHATEVER THE INPUT: true; the input reads as it did. -/
def fieldsCutsSpec : ChangeSpec := { name := "fieldsCuts", fn := fun _ => fun
  | [d] => { results := [.lit (.bool true)], args := [d] }
  | _ => none }
def fieldsCutsRow : OpenClaim := { program := "ytkencpfmbcjppaadoor", sum := "ed5ece6673413221ee9aa0b6e73f01e4dc61534b03d1d3695d23b9aca7b173b2", func := "jackfield/jackfieldlaw01.FieldsCuts", spec := "fieldsCuts", inPlace := ["internal/bytealg.IndexByteString", "math.Float64bits", "math.Float64frombits"], named := ["jackfield/api.ErrTail", "jackfield/api.ErrShort", "jackfield/api.ErrState", "jackfield/api.ErrLong", "jackfield/api.ErrRange"], apart := false, laid := [("jackfield/api.ErrRange", laid_jackfield_api_ErrRange), ("jackfield/api.ErrShort", laid_jackfield_api_ErrShort), ("jackfield/api.ErrLong", laid_jackfield_api_ErrLong), ("jackfield/api.ErrTail", laid_jackfield_api_ErrTail), ("jackfield/api.ErrState", laid_jackfield_api_ErrState)] }
def FieldsCutsSaid : Prop := fieldsCutsRow.holds Tryd.pinned (OpenSpec.ofChange fieldsCutsSpec)

/-- ITS FALSE NEIGHBOUR: 'it returns false'. Refute it at one input. -/
def fieldsCutsWrong : ChangeSpec := { name := "fieldsCuts", fn := fun _ => fun
  | [d] => { results := [.lit (.bool false)], args := [d] }
  | _ => none }
def FieldsCutsWrongFalsely : Prop := fieldsCutsRow.holds Tryd.pinned (OpenSpec.ofChange fieldsCutsWrong)

/-- 'jackfieldlaw01.FieldsGrow': WHATEVER THE INPUT: true; the input reads as it did. -/
def fieldsGrowSpec : ChangeSpec := { name := "fieldsGrow", fn := fun _ => fun
  | [d1, d2, d3] => { results := [.lit (.bool true)], args := [d1, d2, d3] }
  | _ => none }
def fieldsGrowRow : OpenClaim := { program := "ytkencpfmbcjppaadoor", sum := "ed5ece6673413221ee9aa0b6e73f01e4dc61534b03d1d3695d23b9aca7b173b2", func := "jackfield/jackfieldlaw01.FieldsGrow", spec := "fieldsGrow", inPlace := ["internal/bytealg.IndexByteString", "math.Float64bits", "math.Float64frombits"], named := ["jackfield/api.ErrState", "jackfield/api.ErrLong", "jackfield/api.ErrRange", "jackfield/api.ErrTail", "jackfield/api.ErrShort"], apart := false, laid := [("jackfield/api.ErrRange", laid_jackfield_api_ErrRange), ("jackfield/api.ErrShort", laid_jackfield_api_ErrShort), ("jackfield/api.ErrLong", laid_jackfield_api_ErrLong), ("jackfield/api.ErrTail", laid_jackfield_api_ErrTail), ("jackfield/api.ErrState", laid_jackfield_api_ErrState)] }
def FieldsGrowSaid : Prop := fieldsGrowRow.holds Tryd.pinned (OpenSpec.ofChange fieldsGrowSpec)

/-- ITS FALSE NEIGHBOUR: 'it returns false'. Refute it at one input. -/
def fieldsGrowWrong : ChangeSpec := { name := "fieldsGrow", fn := fun _ => fun
  | [d1, d2, d3] => { results := [.lit (.bool false)], args := [d1, d2, d3] }
  | _ => none }
def FieldsGrowWrongFalsely : Prop := fieldsGrowRow.holds Tryd.pinned (OpenSpec.ofChange fieldsGrowWrong)

/- THE SECOND FORM. 'bulk': how many values and letters a reading holds, each counted each time it is reached (what is shared counts as often as it is met; a slice's spare places count too). A statement '..UptoSaid' is the law's where the arguments, and the package variables that the reading takes, are together of bulk at most 1048576: NARROWER than '..Said'. Prove '..Said' where nothing that the law and all that it calls make is longer than what came in: it says more and counts as full. Else prove '..UptoSaid'. A law counts once. -/
mutual
def uptoBulk {H : Type} : DataW H → Nat
  | .lit (.string bytes) => bytes.length + 1
  | .lit _ => 1
  | .nil => 1
  | .ptr d => uptoBulk d + 1
  | .slice elems spare => uptoBulkAll elems + uptoBulkAll spare + 1
  | .agg parts => uptoBulkAll parts + 1
  | .iface _ d => uptoBulk d + 1
  | .map entries => uptoBulkEntries entries + 1
  | .held _ => 1
def uptoBulkAll {H : Type} : List (DataW H) → Nat
  | [] => 0
  | d :: r => uptoBulk d + uptoBulkAll r
def uptoBulkEntries {H : Type} : List (Lit × DataW H) → Nat
  | [] => 0
  | x :: r => uptoBulkEntry x + uptoBulkEntries r
def uptoBulkEntry {H : Type} : Lit × DataW H → Nat
  | (.string bytes, d) => bytes.length + uptoBulk d + 1
  | (_, d) => uptoBulk d + 1
 end
def uptoSmall : (H : Type) → List (DataW H) → Bool := fun _ ds => decide (uptoBulkAll ds ≤ 1048576)
def OpenSpec.upto (s : _root_.Go.ChangeSpec) : _root_.Go.OpenSpec := { _root_.Go.OpenSpec.ofChange s with cond := some uptoSmall }

/-- 'jackfieldlaw01.FieldsBack', WHERE WHAT IT READS IS OF BULK AT MOST 1048576: true; the input reads as it did. -/
def fieldsBackUptoRow : OpenClaim := { program := "ytkencpfmbcjppaadoor", sum := "ed5ece6673413221ee9aa0b6e73f01e4dc61534b03d1d3695d23b9aca7b173b2", func := "jackfield/jackfieldlaw01.FieldsBack", spec := "fieldsBack", inPlace := ["internal/bytealg.IndexByteString", "math.Float64bits", "math.Float64frombits"], named := ["jackfield/api.ErrState", "jackfield/api.ErrLong", "jackfield/api.ErrRange", "jackfield/api.ErrTail", "jackfield/api.ErrShort"], apart := false, laid := [("jackfield/api.ErrRange", laid_jackfield_api_ErrRange), ("jackfield/api.ErrShort", laid_jackfield_api_ErrShort), ("jackfield/api.ErrLong", laid_jackfield_api_ErrLong), ("jackfield/api.ErrTail", laid_jackfield_api_ErrTail), ("jackfield/api.ErrState", laid_jackfield_api_ErrState)], narrowed := true }
def FieldsBackUptoSaid : Prop := fieldsBackUptoRow.holds Tryd.pinned (OpenSpec.upto fieldsBackSpec)

/-- 'jackfieldlaw01.FieldsRows', WHERE WHAT IT READS IS OF BULK AT MOST 1048576: true; the input reads as it did. -/
def fieldsRowsUptoRow : OpenClaim := { program := "ytkencpfmbcjppaadoor", sum := "ed5ece6673413221ee9aa0b6e73f01e4dc61534b03d1d3695d23b9aca7b173b2", func := "jackfield/jackfieldlaw01.FieldsRows", spec := "fieldsRows", inPlace := ["internal/bytealg.IndexByteString", "math.Float64bits", "math.Float64frombits"], named := ["jackfield/api.ErrState", "jackfield/api.ErrLong", "jackfield/api.ErrRange", "jackfield/api.ErrTail", "jackfield/api.ErrShort"], apart := false, laid := [("jackfield/api.ErrRange", laid_jackfield_api_ErrRange), ("jackfield/api.ErrShort", laid_jackfield_api_ErrShort), ("jackfield/api.ErrLong", laid_jackfield_api_ErrLong), ("jackfield/api.ErrTail", laid_jackfield_api_ErrTail), ("jackfield/api.ErrState", laid_jackfield_api_ErrState)], narrowed := true }
def FieldsRowsUptoSaid : Prop := fieldsRowsUptoRow.holds Tryd.pinned (OpenSpec.upto fieldsRowsSpec)

/-- 'jackfieldlaw01.FieldsFloats', WHERE WHAT IT READS IS OF BULK AT MOST 1048576: true; the input reads as it did. -/
def fieldsFloatsUptoRow : OpenClaim := { program := "ytkencpfmbcjppaadoor", sum := "ed5ece6673413221ee9aa0b6e73f01e4dc61534b03d1d3695d23b9aca7b173b2", func := "jackfield/jackfieldlaw01.FieldsFloats", spec := "fieldsFloats", inPlace := ["internal/bytealg.IndexByteString", "math.Float64bits", "math.Float64frombits"], named := ["jackfield/api.ErrState", "jackfield/api.ErrLong", "jackfield/api.ErrRange", "jackfield/api.ErrTail", "jackfield/api.ErrShort"], apart := false, laid := [("jackfield/api.ErrRange", laid_jackfield_api_ErrRange), ("jackfield/api.ErrShort", laid_jackfield_api_ErrShort), ("jackfield/api.ErrLong", laid_jackfield_api_ErrLong), ("jackfield/api.ErrTail", laid_jackfield_api_ErrTail), ("jackfield/api.ErrState", laid_jackfield_api_ErrState)], narrowed := true }
def FieldsFloatsUptoSaid : Prop := fieldsFloatsUptoRow.holds Tryd.pinned (OpenSpec.upto fieldsFloatsSpec)

/-- 'jackfieldlaw01.FieldsMake', WHERE WHAT IT READS IS OF BULK AT MOST 1048576: true; the input reads as it did. -/
def fieldsMakeUptoRow : OpenClaim := { program := "ytkencpfmbcjppaadoor", sum := "ed5ece6673413221ee9aa0b6e73f01e4dc61534b03d1d3695d23b9aca7b173b2", func := "jackfield/jackfieldlaw01.FieldsMake", spec := "fieldsMake", inPlace := ["internal/bytealg.IndexByteString", "math.Float64bits", "math.Float64frombits"], named := ["jackfield/api.ErrState", "jackfield/api.ErrLong", "jackfield/api.ErrRange", "jackfield/api.ErrTail", "jackfield/api.ErrShort", "jackfield/api.ErrBroken", "jackfield/api.ErrPower", "jackfield/api.ErrFrame", "jackfield/api.ErrFull", "jackfield/api.ErrGap", "jackfield/api.ErrName", "jackfield/api.ErrTaken", "jackfield/api.ErrNone", "jackfield/api.ErrOwner", "jackfield/api.ErrProof", "jackfield/api.ErrWindow", "jackfield/api.ErrStream", "jackfield/api.ErrBusy"], apart := false, laid := [("jackfield/api.ErrRange", laid_jackfield_api_ErrRange), ("jackfield/api.ErrShort", laid_jackfield_api_ErrShort), ("jackfield/api.ErrLong", laid_jackfield_api_ErrLong), ("jackfield/api.ErrTail", laid_jackfield_api_ErrTail), ("jackfield/api.ErrBroken", laid_jackfield_api_ErrBroken), ("jackfield/api.ErrPower", laid_jackfield_api_ErrPower), ("jackfield/api.ErrFrame", laid_jackfield_api_ErrFrame), ("jackfield/api.ErrFull", laid_jackfield_api_ErrFull), ("jackfield/api.ErrGap", laid_jackfield_api_ErrGap), ("jackfield/api.ErrName", laid_jackfield_api_ErrName), ("jackfield/api.ErrTaken", laid_jackfield_api_ErrTaken), ("jackfield/api.ErrNone", laid_jackfield_api_ErrNone), ("jackfield/api.ErrOwner", laid_jackfield_api_ErrOwner), ("jackfield/api.ErrProof", laid_jackfield_api_ErrProof), ("jackfield/api.ErrWindow", laid_jackfield_api_ErrWindow), ("jackfield/api.ErrStream", laid_jackfield_api_ErrStream), ("jackfield/api.ErrState", laid_jackfield_api_ErrState), ("jackfield/api.ErrBusy", laid_jackfield_api_ErrBusy)], narrowed := true }
def FieldsMakeUptoSaid : Prop := fieldsMakeUptoRow.holds Tryd.pinned (OpenSpec.upto fieldsMakeSpec)

/-- 'jackfieldlaw01.FieldsSizes', WHERE WHAT IT READS IS OF BULK AT MOST 1048576: true; the input reads as it did. -/
def fieldsSizesUptoRow : OpenClaim := { program := "ytkencpfmbcjppaadoor", sum := "ed5ece6673413221ee9aa0b6e73f01e4dc61534b03d1d3695d23b9aca7b173b2", func := "jackfield/jackfieldlaw01.FieldsSizes", spec := "fieldsSizes", inPlace := ["internal/bytealg.IndexByteString", "math.Float64bits", "math.Float64frombits"], named := ["jackfield/api.ErrState", "jackfield/api.ErrLong", "jackfield/api.ErrRange", "jackfield/api.ErrTail", "jackfield/api.ErrShort"], apart := false, laid := [("jackfield/api.ErrRange", laid_jackfield_api_ErrRange), ("jackfield/api.ErrShort", laid_jackfield_api_ErrShort), ("jackfield/api.ErrLong", laid_jackfield_api_ErrLong), ("jackfield/api.ErrTail", laid_jackfield_api_ErrTail), ("jackfield/api.ErrState", laid_jackfield_api_ErrState)], narrowed := true }
def FieldsSizesUptoSaid : Prop := fieldsSizesUptoRow.holds Tryd.pinned (OpenSpec.upto fieldsSizesSpec)

/-- 'jackfieldlaw01.FieldsTake', WHERE WHAT IT READS IS OF BULK AT MOST 1048576: true; the input reads as it did. -/
def fieldsTakeUptoRow : OpenClaim := { program := "ytkencpfmbcjppaadoor", sum := "ed5ece6673413221ee9aa0b6e73f01e4dc61534b03d1d3695d23b9aca7b173b2", func := "jackfield/jackfieldlaw01.FieldsTake", spec := "fieldsTake", inPlace := ["internal/bytealg.IndexByteString", "math.Float64bits", "math.Float64frombits"], named := ["jackfield/api.ErrState", "jackfield/api.ErrLong", "jackfield/api.ErrRange", "jackfield/api.ErrTail", "jackfield/api.ErrShort", "jackfield/api.ErrBroken", "jackfield/api.ErrPower", "jackfield/api.ErrFrame", "jackfield/api.ErrFull", "jackfield/api.ErrGap", "jackfield/api.ErrName", "jackfield/api.ErrTaken", "jackfield/api.ErrNone", "jackfield/api.ErrOwner", "jackfield/api.ErrProof", "jackfield/api.ErrWindow", "jackfield/api.ErrStream", "jackfield/api.ErrBusy"], apart := false, laid := [("jackfield/api.ErrRange", laid_jackfield_api_ErrRange), ("jackfield/api.ErrShort", laid_jackfield_api_ErrShort), ("jackfield/api.ErrLong", laid_jackfield_api_ErrLong), ("jackfield/api.ErrTail", laid_jackfield_api_ErrTail), ("jackfield/api.ErrBroken", laid_jackfield_api_ErrBroken), ("jackfield/api.ErrPower", laid_jackfield_api_ErrPower), ("jackfield/api.ErrFrame", laid_jackfield_api_ErrFrame), ("jackfield/api.ErrFull", laid_jackfield_api_ErrFull), ("jackfield/api.ErrGap", laid_jackfield_api_ErrGap), ("jackfield/api.ErrName", laid_jackfield_api_ErrName), ("jackfield/api.ErrTaken", laid_jackfield_api_ErrTaken), ("jackfield/api.ErrNone", laid_jackfield_api_ErrNone), ("jackfield/api.ErrOwner", laid_jackfield_api_ErrOwner), ("jackfield/api.ErrProof", laid_jackfield_api_ErrProof), ("jackfield/api.ErrWindow", laid_jackfield_api_ErrWindow), ("jackfield/api.ErrStream", laid_jackfield_api_ErrStream), ("jackfield/api.ErrState", laid_jackfield_api_ErrState), ("jackfield/api.ErrBusy", laid_jackfield_api_ErrBusy)], narrowed := true }
def FieldsTakeUptoSaid : Prop := fieldsTakeUptoRow.holds Tryd.pinned (OpenSpec.upto fieldsTakeSpec)

/-- 'jackfieldlaw01.FieldsCuts', WHERE WHAT IT READS IS OF BULK AT MOST 1048576: true; the input reads as it did. -/
def fieldsCutsUptoRow : OpenClaim := { program := "ytkencpfmbcjppaadoor", sum := "ed5ece6673413221ee9aa0b6e73f01e4dc61534b03d1d3695d23b9aca7b173b2", func := "jackfield/jackfieldlaw01.FieldsCuts", spec := "fieldsCuts", inPlace := ["internal/bytealg.IndexByteString", "math.Float64bits", "math.Float64frombits"], named := ["jackfield/api.ErrTail", "jackfield/api.ErrShort", "jackfield/api.ErrState", "jackfield/api.ErrLong", "jackfield/api.ErrRange"], apart := false, laid := [("jackfield/api.ErrRange", laid_jackfield_api_ErrRange), ("jackfield/api.ErrShort", laid_jackfield_api_ErrShort), ("jackfield/api.ErrLong", laid_jackfield_api_ErrLong), ("jackfield/api.ErrTail", laid_jackfield_api_ErrTail), ("jackfield/api.ErrState", laid_jackfield_api_ErrState)], narrowed := true }
def FieldsCutsUptoSaid : Prop := fieldsCutsUptoRow.holds Tryd.pinned (OpenSpec.upto fieldsCutsSpec)

/-- 'jackfieldlaw01.FieldsGrow', WHERE WHAT IT READS IS OF BULK AT MOST 1048576: true; the input reads as it did. -/
def fieldsGrowUptoRow : OpenClaim := { program := "ytkencpfmbcjppaadoor", sum := "ed5ece6673413221ee9aa0b6e73f01e4dc61534b03d1d3695d23b9aca7b173b2", func := "jackfield/jackfieldlaw01.FieldsGrow", spec := "fieldsGrow", inPlace := ["internal/bytealg.IndexByteString", "math.Float64bits", "math.Float64frombits"], named := ["jackfield/api.ErrState", "jackfield/api.ErrLong", "jackfield/api.ErrRange", "jackfield/api.ErrTail", "jackfield/api.ErrShort"], apart := false, laid := [("jackfield/api.ErrRange", laid_jackfield_api_ErrRange), ("jackfield/api.ErrShort", laid_jackfield_api_ErrShort), ("jackfield/api.ErrLong", laid_jackfield_api_ErrLong), ("jackfield/api.ErrTail", laid_jackfield_api_ErrTail), ("jackfield/api.ErrState", laid_jackfield_api_ErrState)], narrowed := true }
def FieldsGrowUptoSaid : Prop := fieldsGrowUptoRow.holds Tryd.pinned (OpenSpec.upto fieldsGrowSpec)

end Rows
end Go.Proofs.YtkencpfmbcjppaaDoor
