/-
  DERIVED. GIVEN WITH THE SEED: THE PROGRAM's TIES (one call each: nine closed facts by the kernel) AND EACH ROW's TIE, after the 31st guide's Derived/Test/Toyas{Tie, Card}.lean. No idea stands in it: it is a product of the set-up. Laid BY PROGRAM, IN A SANDBOX (cutbox-door.mjs). By AI agents, Wed Nov 11 2026. No macro, syntax, notation, axiom, sorry.
-/
import Derived.Test.YtnnokbipcenbgaaDoorRows
import Derived.LaidByTextLater
import Derived.SevenTiedAt
import Derived.LaidSub
import Derived.LaidOnce
namespace Go.Proofs.YtnnokbipcenbgaaDoor
open Go
set_option maxRecDepth 100000
theorem seatTie1 : Tryd.prog.laidByTextLater [("jackfield/api.ErrRange", Rows.laid_jackfield_api_ErrRange), ("jackfield/api.ErrShort", Rows.laid_jackfield_api_ErrShort), ("jackfield/api.ErrLong", Rows.laid_jackfield_api_ErrLong), ("jackfield/api.ErrTail", Rows.laid_jackfield_api_ErrTail), ("jackfield/api.ErrBroken", Rows.laid_jackfield_api_ErrBroken), ("jackfield/api.ErrPower", Rows.laid_jackfield_api_ErrPower), ("jackfield/api.ErrFrame", Rows.laid_jackfield_api_ErrFrame), ("jackfield/api.ErrFull", Rows.laid_jackfield_api_ErrFull), ("jackfield/api.ErrGap", Rows.laid_jackfield_api_ErrGap), ("jackfield/api.ErrName", Rows.laid_jackfield_api_ErrName), ("jackfield/api.ErrTaken", Rows.laid_jackfield_api_ErrTaken), ("jackfield/api.ErrNone", Rows.laid_jackfield_api_ErrNone), ("jackfield/api.ErrOwner", Rows.laid_jackfield_api_ErrOwner), ("jackfield/api.ErrProof", Rows.laid_jackfield_api_ErrProof), ("jackfield/api.ErrWindow", Rows.laid_jackfield_api_ErrWindow), ("jackfield/api.ErrStream", Rows.laid_jackfield_api_ErrStream), ("jackfield/api.ErrState", Rows.laid_jackfield_api_ErrState), ("jackfield/api.ErrBusy", Rows.laid_jackfield_api_ErrBusy), ("jackfield/hash.round", Rows.laid_jackfield_hash_round)] [.sentinel, .sentinel, .sentinel, .sentinel, .sentinel, .sentinel, .sentinel, .sentinel, .sentinel, .sentinel, .sentinel, .sentinel, .sentinel, .sentinel, .sentinel, .sentinel, .sentinel, .sentinel, .data] true :=
  Program.laidByTextLater_by_one 356 8 65 (by kernel_rfl) (by kernel_rfl) (by kernel_rfl) (by kernel_rfl) (by kernel_rfl) (by kernel_rfl) (fun _ _ => by kernel_rfl)
theorem noOwnUnsafe : Tryd.pinned.checked.prog.headLifts.contains "ownunsafe" = false := by kernel_rfl
theorem tie : Tryd.prog.laidByTextLater [("jackfield/api.ErrRange", Rows.laid_jackfield_api_ErrRange), ("jackfield/api.ErrLong", Rows.laid_jackfield_api_ErrLong), ("jackfield/api.ErrProof", Rows.laid_jackfield_api_ErrProof), ("jackfield/api.ErrState", Rows.laid_jackfield_api_ErrState), ("jackfield/hash.round", Rows.laid_jackfield_hash_round)] [.sentinel, .sentinel, .sentinel, .sentinel, .data] true :=
  Program.laidByTextLater.sub seatTie1 ["jackfield/api.ErrRange", "jackfield/api.ErrLong", "jackfield/api.ErrProof", "jackfield/api.ErrState", "jackfield/hash.round"] (by kernel_rfl) (by kernel_rfl)
theorem proofNumbers_row_tie : Rows.proofNumbersRow.laidByTextAt .later Tryd.pinned [.sentinel, .sentinel, .sentinel, .sentinel, .data] true :=
  OpenClaim.laidByTextAt_later rfl rfl tie noOwnUnsafe
theorem proofSlips_row_tie : Rows.proofSlipsRow.laidByTextAt .later Tryd.pinned [.sentinel, .sentinel, .sentinel, .sentinel, .data] true :=
  OpenClaim.laidByTextAt_later rfl rfl tie noOwnUnsafe
theorem proofShapes_row_tie : Rows.proofShapesRow.laidByTextAt .later Tryd.pinned [.sentinel, .sentinel, .sentinel, .sentinel, .data] true :=
  OpenClaim.laidByTextAt_later rfl rfl tie noOwnUnsafe
theorem tie2 : Tryd.prog.laidByTextLater [("jackfield/api.ErrRange", Rows.laid_jackfield_api_ErrRange), ("jackfield/api.ErrShort", Rows.laid_jackfield_api_ErrShort), ("jackfield/api.ErrLong", Rows.laid_jackfield_api_ErrLong), ("jackfield/api.ErrTail", Rows.laid_jackfield_api_ErrTail), ("jackfield/api.ErrBroken", Rows.laid_jackfield_api_ErrBroken), ("jackfield/api.ErrPower", Rows.laid_jackfield_api_ErrPower), ("jackfield/api.ErrFrame", Rows.laid_jackfield_api_ErrFrame), ("jackfield/api.ErrFull", Rows.laid_jackfield_api_ErrFull), ("jackfield/api.ErrGap", Rows.laid_jackfield_api_ErrGap), ("jackfield/api.ErrName", Rows.laid_jackfield_api_ErrName), ("jackfield/api.ErrTaken", Rows.laid_jackfield_api_ErrTaken), ("jackfield/api.ErrNone", Rows.laid_jackfield_api_ErrNone), ("jackfield/api.ErrOwner", Rows.laid_jackfield_api_ErrOwner), ("jackfield/api.ErrProof", Rows.laid_jackfield_api_ErrProof), ("jackfield/api.ErrWindow", Rows.laid_jackfield_api_ErrWindow), ("jackfield/api.ErrStream", Rows.laid_jackfield_api_ErrStream), ("jackfield/api.ErrState", Rows.laid_jackfield_api_ErrState), ("jackfield/api.ErrBusy", Rows.laid_jackfield_api_ErrBusy), ("jackfield/hash.round", Rows.laid_jackfield_hash_round)] [.sentinel, .sentinel, .sentinel, .sentinel, .sentinel, .sentinel, .sentinel, .sentinel, .sentinel, .sentinel, .sentinel, .sentinel, .sentinel, .sentinel, .sentinel, .sentinel, .sentinel, .sentinel, .data] true :=
  Program.laidByTextLater.sub seatTie1 ["jackfield/api.ErrRange", "jackfield/api.ErrShort", "jackfield/api.ErrLong", "jackfield/api.ErrTail", "jackfield/api.ErrBroken", "jackfield/api.ErrPower", "jackfield/api.ErrFrame", "jackfield/api.ErrFull", "jackfield/api.ErrGap", "jackfield/api.ErrName", "jackfield/api.ErrTaken", "jackfield/api.ErrNone", "jackfield/api.ErrOwner", "jackfield/api.ErrProof", "jackfield/api.ErrWindow", "jackfield/api.ErrStream", "jackfield/api.ErrState", "jackfield/api.ErrBusy", "jackfield/hash.round"] (by kernel_rfl) (by kernel_rfl)
theorem proofTells_row_tie : Rows.proofTellsRow.laidByTextAt .later Tryd.pinned [.sentinel, .sentinel, .sentinel, .sentinel, .sentinel, .sentinel, .sentinel, .sentinel, .sentinel, .sentinel, .sentinel, .sentinel, .sentinel, .sentinel, .sentinel, .sentinel, .sentinel, .sentinel, .data] true :=
  OpenClaim.laidByTextAt_later rfl rfl tie2 noOwnUnsafe
theorem proofNumbersUpto_row_tie : Rows.proofNumbersUptoRow.laidByTextAt .later Tryd.pinned [.sentinel, .sentinel, .sentinel, .sentinel, .data] true :=
  OpenClaim.laidByTextAt_later rfl rfl tie noOwnUnsafe
theorem proofSlipsUpto_row_tie : Rows.proofSlipsUptoRow.laidByTextAt .later Tryd.pinned [.sentinel, .sentinel, .sentinel, .sentinel, .data] true :=
  OpenClaim.laidByTextAt_later rfl rfl tie noOwnUnsafe
theorem proofTellsUpto_row_tie : Rows.proofTellsUptoRow.laidByTextAt .later Tryd.pinned [.sentinel, .sentinel, .sentinel, .sentinel, .sentinel, .sentinel, .sentinel, .sentinel, .sentinel, .sentinel, .sentinel, .sentinel, .sentinel, .sentinel, .sentinel, .sentinel, .sentinel, .sentinel, .data] true :=
  OpenClaim.laidByTextAt_later rfl rfl tie2 noOwnUnsafe
theorem proofShapesUpto_row_tie : Rows.proofShapesUptoRow.laidByTextAt .later Tryd.pinned [.sentinel, .sentinel, .sentinel, .sentinel, .data] true :=
  OpenClaim.laidByTextAt_later rfl rfl tie noOwnUnsafe
end Go.Proofs.YtnnokbipcenbgaaDoor
