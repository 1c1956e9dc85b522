/-
  NARROWER THAN 'FOR EVERY INPUT', by the rows' own cells (each row's printed sentence says how): FrameFields: laid · FrameRows: laid · ScanFeeds: laid · FrameGets: laid · FrameUnlike: laid · FrameLengths: laid · FramePuts: laid · ScanJoins: laid · ScanStays: laid · ScanSplits: laid · ScanFirst: laid.
  DERIVED. THE GIVEN ROWS OF THIS SEAT. 11 by the template 'for every input the law returns true; each argument reads behind the call as it read before'; 0 by the template 'total and deterministic' (their statements: YtpekagkhgegefaaDoorTotals.lean).
  GIVEN WITH THE SEED: the statements are not yours to turn. If you find one false, say at which input.
  Laid BY PROGRAM, IN A SANDBOX (cutbox-rows.mjs): the forced cells as the released guide's own fill.sh prints them over the translation 422fdf1fc4a95a64… (all of the seat's roots in one cut). By AI agents, Wed Nov 11 2026. No macro, syntax, notation, axiom, sorry.
-/
import Derived.Test.YtpekagkhgegefaaDoorChecked
import GoSem.Claim
import GoSem.ClaimJoined
import GoSem.ClaimMapViews
import Derived.JoinedTies
import Derived.KernelRfl
namespace Go.Proofs.YtpekagkhgegefaaDoor
/- THE CELL 'sum', in the pinned program and in every row, IS THE sha256 OF THE DUMP (.gsa) THAT YtpekagkhgegefaaDoorProg.lean LOADS. Nothing in Lean hashes anything: it is a label: what it is worth is what the hold of that sum in a sandbox is worth. -/
noncomputable def Tryd.pinned : Pinned := { name := "ytpekagkhgegefaadoor", sum := "422fdf1fc4a95a641b867d7d1383295580a25e0afa794c615ccdfa6ced6d140a", checked := Tryd.checked }
namespace Rows
def none {H : Type} : Left H := { results := [], args := [] }

/- WHAT THE LISTED PACKAGE-LEVEL VARIABLES READ AS WHEN THE CALL BEGINS. Each datum BY PROGRAM (the guide's laid-datum.mjs) off the statement by which the dump's own 'gosem.cut.vars' lays the variable. In a bare row this is a premise. The card (YtpekagkhgegefaaDoorCards.lean) ties it to the program's text. -/
def laid_jackfield_api_ErrRange {H : Type} : DataW H := .iface "*errors.errorString" (.ptr (.agg [.lit (.string [106, 97, 99, 107, 102, 105, 101, 108, 100, 58, 32, 114, 97, 110, 103, 101])]))
def laid_jackfield_api_ErrLong {H : Type} : DataW H := .iface "*errors.errorString" (.ptr (.agg [.lit (.string [106, 97, 99, 107, 102, 105, 101, 108, 100, 58, 32, 108, 111, 110, 103])]))
def laid_jackfield_api_ErrFrame {H : Type} : DataW H := .iface "*errors.errorString" (.ptr (.agg [.lit (.string [106, 97, 99, 107, 102, 105, 101, 108, 100, 58, 32, 102, 114, 97, 109, 101])]))
def laid_jackfield_api_ErrState {H : Type} : DataW H := .iface "*errors.errorString" (.ptr (.agg [.lit (.string [106, 97, 99, 107, 102, 105, 101, 108, 100, 58, 32, 115, 116, 97, 116, 101])]))
def laid_jackfield_hash_round {H : Type} : DataW H := .agg [.lit (.int .u32 1116352408), .lit (.int .u32 1899447441), .lit (.int .u32 3049323471), .lit (.int .u32 3921009573), .lit (.int .u32 961987163), .lit (.int .u32 1508970993), .lit (.int .u32 2453635748), .lit (.int .u32 2870763221), .lit (.int .u32 3624381080), .lit (.int .u32 310598401), .lit (.int .u32 607225278), .lit (.int .u32 1426881987), .lit (.int .u32 1925078388), .lit (.int .u32 2162078206), .lit (.int .u32 2614888103), .lit (.int .u32 3248222580), .lit (.int .u32 3835390401), .lit (.int .u32 4022224774), .lit (.int .u32 264347078), .lit (.int .u32 604807628), .lit (.int .u32 770255983), .lit (.int .u32 1249150122), .lit (.int .u32 1555081692), .lit (.int .u32 1996064986), .lit (.int .u32 2554220882), .lit (.int .u32 2821834349), .lit (.int .u32 2952996808), .lit (.int .u32 3210313671), .lit (.int .u32 3336571891), .lit (.int .u32 3584528711), .lit (.int .u32 113926993), .lit (.int .u32 338241895), .lit (.int .u32 666307205), .lit (.int .u32 773529912), .lit (.int .u32 1294757372), .lit (.int .u32 1396182291), .lit (.int .u32 1695183700), .lit (.int .u32 1986661051), .lit (.int .u32 2177026350), .lit (.int .u32 2456956037), .lit (.int .u32 2730485921), .lit (.int .u32 2820302411), .lit (.int .u32 3259730800), .lit (.int .u32 3345764771), .lit (.int .u32 3516065817), .lit (.int .u32 3600352804), .lit (.int .u32 4094571909), .lit (.int .u32 275423344), .lit (.int .u32 430227734), .lit (.int .u32 506948616), .lit (.int .u32 659060556), .lit (.int .u32 883997877), .lit (.int .u32 958139571), .lit (.int .u32 1322822218), .lit (.int .u32 1537002063), .lit (.int .u32 1747873779), .lit (.int .u32 1955562222), .lit (.int .u32 2024104815), .lit (.int .u32 2227730452), .lit (.int .u32 2361852424), .lit (.int .u32 2428436474), .lit (.int .u32 2756734187), .lit (.int .u32 3204031479), .lit (.int .u32 3329325298)]
def laid_jackfield_api_ErrShort {H : Type} : DataW H := .iface "*errors.errorString" (.ptr (.agg [.lit (.string [106, 97, 99, 107, 102, 105, 101, 108, 100, 58, 32, 115, 104, 111, 114, 116])]))
def laid_jackfield_api_ErrTail {H : Type} : DataW H := .iface "*errors.errorString" (.ptr (.agg [.lit (.string [106, 97, 99, 107, 102, 105, 101, 108, 100, 58, 32, 116, 97, 105, 108])]))
def laid_jackfield_api_ErrBroken {H : Type} : DataW H := .iface "*errors.errorString" (.ptr (.agg [.lit (.string [106, 97, 99, 107, 102, 105, 101, 108, 100, 58, 32, 98, 114, 111, 107, 101, 110])]))
def laid_jackfield_api_ErrPower {H : Type} : DataW H := .iface "*errors.errorString" (.ptr (.agg [.lit (.string [106, 97, 99, 107, 102, 105, 101, 108, 100, 58, 32, 112, 111, 119, 101, 114])]))
def laid_jackfield_api_ErrFull {H : Type} : DataW H := .iface "*errors.errorString" (.ptr (.agg [.lit (.string [106, 97, 99, 107, 102, 105, 101, 108, 100, 58, 32, 102, 117, 108, 108])]))
def laid_jackfield_api_ErrGap {H : Type} : DataW H := .iface "*errors.errorString" (.ptr (.agg [.lit (.string [106, 97, 99, 107, 102, 105, 101, 108, 100, 58, 32, 103, 97, 112])]))
def laid_jackfield_api_ErrName {H : Type} : DataW H := .iface "*errors.errorString" (.ptr (.agg [.lit (.string [106, 97, 99, 107, 102, 105, 101, 108, 100, 58, 32, 110, 97, 109, 101])]))
def laid_jackfield_api_ErrTaken {H : Type} : DataW H := .iface "*errors.errorString" (.ptr (.agg [.lit (.string [106, 97, 99, 107, 102, 105, 101, 108, 100, 58, 32, 116, 97, 107, 101, 110])]))
def laid_jackfield_api_ErrNone {H : Type} : DataW H := .iface "*errors.errorString" (.ptr (.agg [.lit (.string [106, 97, 99, 107, 102, 105, 101, 108, 100, 58, 32, 110, 111, 110, 101])]))
def laid_jackfield_api_ErrOwner {H : Type} : DataW H := .iface "*errors.errorString" (.ptr (.agg [.lit (.string [106, 97, 99, 107, 102, 105, 101, 108, 100, 58, 32, 111, 119, 110, 101, 114])]))
def laid_jackfield_api_ErrProof {H : Type} : DataW H := .iface "*errors.errorString" (.ptr (.agg [.lit (.string [106, 97, 99, 107, 102, 105, 101, 108, 100, 58, 32, 112, 114, 111, 111, 102])]))
def laid_jackfield_api_ErrWindow {H : Type} : DataW H := .iface "*errors.errorString" (.ptr (.agg [.lit (.string [106, 97, 99, 107, 102, 105, 101, 108, 100, 58, 32, 119, 105, 110, 100, 111, 119])]))
def laid_jackfield_api_ErrStream {H : Type} : DataW H := .iface "*errors.errorString" (.ptr (.agg [.lit (.string [106, 97, 99, 107, 102, 105, 101, 108, 100, 58, 32, 115, 116, 114, 101, 97, 109])]))
def laid_jackfield_api_ErrBusy {H : Type} : DataW H := .iface "*errors.errorString" (.ptr (.agg [.lit (.string [106, 97, 99, 107, 102, 105, 101, 108, 100, 58, 32, 98, 117, 115, 121])]))

/-- 'jackfieldlaw05.FrameFields': WHATEVER THE INPUT: true; the input reads as it did. -/
def frameFieldsSpec : ChangeSpec := { name := "frameFields", fn := fun _ => fun
  | [d] => { results := [.lit (.bool true)], args := [d] }
  | _ => none }
def frameFieldsRow : OpenClaim := { program := "ytpekagkhgegefaadoor", sum := "422fdf1fc4a95a641b867d7d1383295580a25e0afa794c615ccdfa6ced6d140a", func := "jackfield/jackfieldlaw05.FrameFields", spec := "frameFields", inPlace := ["math.Float64bits", "internal/bytealg.IndexByteString"], named := ["jackfield/api.ErrFrame", "jackfield/api.ErrState", "jackfield/api.ErrLong", "jackfield/api.ErrRange", "jackfield/hash.round"], apart := false, laid := [("jackfield/api.ErrRange", laid_jackfield_api_ErrRange), ("jackfield/api.ErrLong", laid_jackfield_api_ErrLong), ("jackfield/api.ErrFrame", laid_jackfield_api_ErrFrame), ("jackfield/api.ErrState", laid_jackfield_api_ErrState), ("jackfield/hash.round", laid_jackfield_hash_round)] }
def FrameFieldsSaid : Prop := frameFieldsRow.holds Tryd.pinned (OpenSpec.ofChange frameFieldsSpec)

/-- ITS FALSE NEIGHBOUR: 'it returns false'. Refute it at one input. -/
def frameFieldsWrong : ChangeSpec := { name := "frameFields", fn := fun _ => fun
  | [d] => { results := [.lit (.bool false)], args := [d] }
  | _ => none }
def FrameFieldsWrongFalsely : Prop := frameFieldsRow.holds Tryd.pinned (OpenSpec.ofChange frameFieldsWrong)

/-- 'jackfieldlaw05.FrameRows': WHATEVER THE INPUT: true; the input reads as it did. -/
def frameRowsSpec : ChangeSpec := { name := "frameRows", fn := fun _ => fun
  | [d] => { results := [.lit (.bool true)], args := [d] }
  | _ => none }
def frameRowsRow : OpenClaim := { program := "ytpekagkhgegefaadoor", sum := "422fdf1fc4a95a641b867d7d1383295580a25e0afa794c615ccdfa6ced6d140a", func := "jackfield/jackfieldlaw05.FrameRows", spec := "frameRows", inPlace := ["math.Float64bits", "internal/bytealg.IndexByteString"], named := ["jackfield/api.ErrFrame", "jackfield/api.ErrState", "jackfield/api.ErrLong", "jackfield/api.ErrRange", "jackfield/hash.round"], apart := false, laid := [("jackfield/api.ErrRange", laid_jackfield_api_ErrRange), ("jackfield/api.ErrLong", laid_jackfield_api_ErrLong), ("jackfield/api.ErrFrame", laid_jackfield_api_ErrFrame), ("jackfield/api.ErrState", laid_jackfield_api_ErrState), ("jackfield/hash.round", laid_jackfield_hash_round)] }
def FrameRowsSaid : Prop := frameRowsRow.holds Tryd.pinned (OpenSpec.ofChange frameRowsSpec)

/-- ITS FALSE NEIGHBOUR: 'it returns false'. Refute it at one input. -/
def frameRowsWrong : ChangeSpec := { name := "frameRows", fn := fun _ => fun
  | [d] => { results := [.lit (.bool false)], args := [d] }
  | _ => none }
def FrameRowsWrongFalsely : Prop := frameRowsRow.holds Tryd.pinned (OpenSpec.ofChange frameRowsWrong)

/-- 'jackfieldlaw06.ScanFeeds': WHATEVER THE INPUT: true; the input reads as it did. -/
def scanFeedsSpec : ChangeSpec := { name := "scanFeeds", fn := fun _ => fun
  | [d] => { results := [.lit (.bool true)], args := [d] }
  | _ => none }
def scanFeedsRow : OpenClaim := { program := "ytpekagkhgegefaadoor", sum := "422fdf1fc4a95a641b867d7d1383295580a25e0afa794c615ccdfa6ced6d140a", func := "jackfield/jackfieldlaw06.ScanFeeds", spec := "scanFeeds", inPlace := ["math.Float64bits", "math.Float64frombits", "internal/bytealg.IndexByteString"], named := ["jackfield/api.ErrBroken", "jackfield/api.ErrFrame", "jackfield/hash.round", "jackfield/api.ErrState", "jackfield/api.ErrTail", "jackfield/api.ErrShort", "jackfield/api.ErrRange", "jackfield/api.ErrLong", "jackfield/api.ErrPower", "jackfield/api.ErrFull", "jackfield/api.ErrGap", "jackfield/api.ErrName", "jackfield/api.ErrTaken", "jackfield/api.ErrNone", "jackfield/api.ErrOwner", "jackfield/api.ErrProof", "jackfield/api.ErrWindow", "jackfield/api.ErrStream", "jackfield/api.ErrBusy"], apart := false, laid := [("jackfield/api.ErrRange", laid_jackfield_api_ErrRange), ("jackfield/api.ErrShort", laid_jackfield_api_ErrShort), ("jackfield/api.ErrLong", laid_jackfield_api_ErrLong), ("jackfield/api.ErrTail", laid_jackfield_api_ErrTail), ("jackfield/api.ErrBroken", laid_jackfield_api_ErrBroken), ("jackfield/api.ErrPower", laid_jackfield_api_ErrPower), ("jackfield/api.ErrFrame", laid_jackfield_api_ErrFrame), ("jackfield/api.ErrFull", laid_jackfield_api_ErrFull), ("jackfield/api.ErrGap", laid_jackfield_api_ErrGap), ("jackfield/api.ErrName", laid_jackfield_api_ErrName), ("jackfield/api.ErrTaken", laid_jackfield_api_ErrTaken), ("jackfield/api.ErrNone", laid_jackfield_api_ErrNone), ("jackfield/api.ErrOwner", laid_jackfield_api_ErrOwner), ("jackfield/api.ErrProof", laid_jackfield_api_ErrProof), ("jackfield/api.ErrWindow", laid_jackfield_api_ErrWindow), ("jackfield/api.ErrStream", laid_jackfield_api_ErrStream), ("jackfield/api.ErrState", laid_jackfield_api_ErrState), ("jackfield/api.ErrBusy", laid_jackfield_api_ErrBusy), ("jackfield/hash.round", laid_jackfield_hash_round)] }
def ScanFeedsSaid : Prop := scanFeedsRow.holds Tryd.pinned (OpenSpec.ofChange scanFeedsSpec)

/-- ITS FALSE NEIGHBOUR: 'it returns false'. Refute it at one input. -/
def scanFeedsWrong : ChangeSpec := { name := "scanFeeds", fn := fun _ => fun
  | [d] => { results := [.lit (.bool false)], args := [d] }
  | _ => none }
def ScanFeedsWrongFalsely : Prop := scanFeedsRow.holds Tryd.pinned (OpenSpec.ofChange scanFeedsWrong)

/-- 'jackfieldlaw05.FrameGets': WHATEVER THE INPUT: true; the input reads as it did. -/
def frameGetsSpec : ChangeSpec := { name := "frameGets", fn := fun _ => fun
  | [d] => { results := [.lit (.bool true)], args := [d] }
  | _ => none }
def frameGetsRow : OpenClaim := { program := "ytpekagkhgegefaadoor", sum := "422fdf1fc4a95a641b867d7d1383295580a25e0afa794c615ccdfa6ced6d140a", func := "jackfield/jackfieldlaw05.FrameGets", spec := "frameGets", inPlace := ["math.Float64bits", "internal/bytealg.IndexByteString", "math.Float64frombits"], named := ["jackfield/api.ErrFrame", "jackfield/api.ErrState", "jackfield/api.ErrLong", "jackfield/api.ErrRange", "jackfield/hash.round", "jackfield/api.ErrTail", "jackfield/api.ErrShort"], apart := false, laid := [("jackfield/api.ErrRange", laid_jackfield_api_ErrRange), ("jackfield/api.ErrShort", laid_jackfield_api_ErrShort), ("jackfield/api.ErrLong", laid_jackfield_api_ErrLong), ("jackfield/api.ErrTail", laid_jackfield_api_ErrTail), ("jackfield/api.ErrFrame", laid_jackfield_api_ErrFrame), ("jackfield/api.ErrState", laid_jackfield_api_ErrState), ("jackfield/hash.round", laid_jackfield_hash_round)] }
def FrameGetsSaid : Prop := frameGetsRow.holds Tryd.pinned (OpenSpec.ofChange frameGetsSpec)

/-- ITS FALSE NEIGHBOUR: 'it returns false'. Refute it at one input. -/
def frameGetsWrong : ChangeSpec := { name := "frameGets", fn := fun _ => fun
  | [d] => { results := [.lit (.bool false)], args := [d] }
  | _ => none }
def FrameGetsWrongFalsely : Prop := frameGetsRow.holds Tryd.pinned (OpenSpec.ofChange frameGetsWrong)

/-- 'jackfieldlaw05.FrameUnlike': WHATEVER THE INPUT: true; the input reads as it did. -/
def frameUnlikeSpec : ChangeSpec := { name := "frameUnlike", fn := fun _ => fun
  | [d] => { results := [.lit (.bool true)], args := [d] }
  | _ => none }
def frameUnlikeRow : OpenClaim := { program := "ytpekagkhgegefaadoor", sum := "422fdf1fc4a95a641b867d7d1383295580a25e0afa794c615ccdfa6ced6d140a", func := "jackfield/jackfieldlaw05.FrameUnlike", spec := "frameUnlike", inPlace := ["math.Float64bits", "internal/bytealg.IndexByteString", "math.Float64frombits"], named := ["jackfield/api.ErrFrame", "jackfield/api.ErrState", "jackfield/api.ErrLong", "jackfield/api.ErrRange", "jackfield/hash.round", "jackfield/api.ErrTail", "jackfield/api.ErrShort"], apart := false, laid := [("jackfield/api.ErrRange", laid_jackfield_api_ErrRange), ("jackfield/api.ErrShort", laid_jackfield_api_ErrShort), ("jackfield/api.ErrLong", laid_jackfield_api_ErrLong), ("jackfield/api.ErrTail", laid_jackfield_api_ErrTail), ("jackfield/api.ErrFrame", laid_jackfield_api_ErrFrame), ("jackfield/api.ErrState", laid_jackfield_api_ErrState), ("jackfield/hash.round", laid_jackfield_hash_round)] }
def FrameUnlikeSaid : Prop := frameUnlikeRow.holds Tryd.pinned (OpenSpec.ofChange frameUnlikeSpec)

/-- ITS FALSE NEIGHBOUR: 'it returns false'. Refute it at one input. -/
def frameUnlikeWrong : ChangeSpec := { name := "frameUnlike", fn := fun _ => fun
  | [d] => { results := [.lit (.bool false)], args := [d] }
  | _ => none }
def FrameUnlikeWrongFalsely : Prop := frameUnlikeRow.holds Tryd.pinned (OpenSpec.ofChange frameUnlikeWrong)

/-- 'jackfieldlaw05.FrameLengths': WHATEVER THE INPUT: true; the input reads as it did. -/
def frameLengthsSpec : ChangeSpec := { name := "frameLengths", fn := fun _ => fun
  | [d1, d2] => { results := [.lit (.bool true)], args := [d1, d2] }
  | _ => none }
def frameLengthsRow : OpenClaim := { program := "ytpekagkhgegefaadoor", sum := "422fdf1fc4a95a641b867d7d1383295580a25e0afa794c615ccdfa6ced6d140a", func := "jackfield/jackfieldlaw05.FrameLengths", spec := "frameLengths", inPlace := ["math.Float64bits", "internal/bytealg.IndexByteString", "math.Float64frombits"], named := ["jackfield/api.ErrFrame", "jackfield/api.ErrState", "jackfield/api.ErrLong", "jackfield/api.ErrRange", "jackfield/hash.round", "jackfield/api.ErrTail", "jackfield/api.ErrShort"], apart := false, laid := [("jackfield/api.ErrRange", laid_jackfield_api_ErrRange), ("jackfield/api.ErrShort", laid_jackfield_api_ErrShort), ("jackfield/api.ErrLong", laid_jackfield_api_ErrLong), ("jackfield/api.ErrTail", laid_jackfield_api_ErrTail), ("jackfield/api.ErrFrame", laid_jackfield_api_ErrFrame), ("jackfield/api.ErrState", laid_jackfield_api_ErrState), ("jackfield/hash.round", laid_jackfield_hash_round)] }
def FrameLengthsSaid : Prop := frameLengthsRow.holds Tryd.pinned (OpenSpec.ofChange frameLengthsSpec)

/-- ITS FALSE NEIGHBOUR: 'it returns false'. Refute it at one input. -/
def frameLengthsWrong : ChangeSpec := { name := "frameLengths", fn := fun _ => fun
  | [d1, d2] => { results := [.lit (.bool false)], args := [d1, d2] }
  | _ => none }
def FrameLengthsWrongFalsely : Prop := frameLengthsRow.holds Tryd.pinned (OpenSpec.ofChange frameLengthsWrong)

/-- 'jackfieldlaw05.FramePuts': WHATEVER THE INPUT: true; the input reads as it did. -/
def framePutsSpec : ChangeSpec := { name := "framePuts", fn := fun _ => fun
  | [d] => { results := [.lit (.bool true)], args := [d] }
  | _ => none }
def framePutsRow : OpenClaim := { program := "ytpekagkhgegefaadoor", sum := "422fdf1fc4a95a641b867d7d1383295580a25e0afa794c615ccdfa6ced6d140a", func := "jackfield/jackfieldlaw05.FramePuts", spec := "framePuts", inPlace := ["math.Float64bits", "internal/bytealg.IndexByteString", "math.Float64frombits"], named := ["jackfield/api.ErrFrame", "jackfield/api.ErrState", "jackfield/api.ErrLong", "jackfield/api.ErrRange", "jackfield/hash.round", "jackfield/api.ErrShort", "jackfield/api.ErrTail", "jackfield/api.ErrBroken", "jackfield/api.ErrPower", "jackfield/api.ErrFull", "jackfield/api.ErrGap", "jackfield/api.ErrName", "jackfield/api.ErrTaken", "jackfield/api.ErrNone", "jackfield/api.ErrOwner", "jackfield/api.ErrProof", "jackfield/api.ErrWindow", "jackfield/api.ErrStream", "jackfield/api.ErrBusy"], apart := false, laid := [("jackfield/api.ErrRange", laid_jackfield_api_ErrRange), ("jackfield/api.ErrShort", laid_jackfield_api_ErrShort), ("jackfield/api.ErrLong", laid_jackfield_api_ErrLong), ("jackfield/api.ErrTail", laid_jackfield_api_ErrTail), ("jackfield/api.ErrBroken", laid_jackfield_api_ErrBroken), ("jackfield/api.ErrPower", laid_jackfield_api_ErrPower), ("jackfield/api.ErrFrame", laid_jackfield_api_ErrFrame), ("jackfield/api.ErrFull", laid_jackfield_api_ErrFull), ("jackfield/api.ErrGap", laid_jackfield_api_ErrGap), ("jackfield/api.ErrName", laid_jackfield_api_ErrName), ("jackfield/api.ErrTaken", laid_jackfield_api_ErrTaken), ("jackfield/api.ErrNone", laid_jackfield_api_ErrNone), ("jackfield/api.ErrOwner", laid_jackfield_api_ErrOwner), ("jackfield/api.ErrProof", laid_jackfield_api_ErrProof), ("jackfield/api.ErrWindow", laid_jackfield_api_ErrWindow), ("jackfield/api.ErrStream", laid_jackfield_api_ErrStream), ("jackfield/api.ErrState", laid_jackfield_api_ErrState), ("jackfield/api.ErrBusy", laid_jackfield_api_ErrBusy), ("jackfield/hash.round", laid_jackfield_hash_round)] }
def FramePutsSaid : Prop := framePutsRow.holds Tryd.pinned (OpenSpec.ofChange framePutsSpec)

/-- ITS FALSE NEIGHBOUR: 'it returns false'. Refute it at one input. -/
def framePutsWrong : ChangeSpec := { name := "framePuts", fn := fun _ => fun
  | [d] => { results := [.lit (.bool false)], args := [d] }
  | _ => none }
def FramePutsWrongFalsely : Prop := framePutsRow.holds Tryd.pinned (OpenSpec.ofChange framePutsWrong)

/-- 'jackfieldlaw06.ScanJoins': WHATEVER THE INPUT: true; the input reads as it did. -/
def scanJoinsSpec : ChangeSpec := { name := "scanJoins", fn := fun _ => fun
  | [d1, d2] => { results := [.lit (.bool true)], args := [d1, d2] }
  | _ => none }
def scanJoinsRow : OpenClaim := { program := "ytpekagkhgegefaadoor", sum := "422fdf1fc4a95a641b867d7d1383295580a25e0afa794c615ccdfa6ced6d140a", func := "jackfield/jackfieldlaw06.ScanJoins", spec := "scanJoins", inPlace := ["math.Float64bits", "math.Float64frombits", "internal/bytealg.IndexByteString"], named := ["jackfield/api.ErrFrame", "jackfield/api.ErrBroken", "jackfield/hash.round", "jackfield/api.ErrState", "jackfield/api.ErrTail", "jackfield/api.ErrShort", "jackfield/api.ErrRange", "jackfield/api.ErrLong"], apart := false, laid := [("jackfield/api.ErrRange", laid_jackfield_api_ErrRange), ("jackfield/api.ErrShort", laid_jackfield_api_ErrShort), ("jackfield/api.ErrLong", laid_jackfield_api_ErrLong), ("jackfield/api.ErrTail", laid_jackfield_api_ErrTail), ("jackfield/api.ErrBroken", laid_jackfield_api_ErrBroken), ("jackfield/api.ErrFrame", laid_jackfield_api_ErrFrame), ("jackfield/api.ErrState", laid_jackfield_api_ErrState), ("jackfield/hash.round", laid_jackfield_hash_round)] }
def ScanJoinsSaid : Prop := scanJoinsRow.holds Tryd.pinned (OpenSpec.ofChange scanJoinsSpec)

/-- ITS FALSE NEIGHBOUR: 'it returns false'. Refute it at one input. -/
def scanJoinsWrong : ChangeSpec := { name := "scanJoins", fn := fun _ => fun
  | [d1, d2] => { results := [.lit (.bool false)], args := [d1, d2] }
  | _ => none }
def ScanJoinsWrongFalsely : Prop := scanJoinsRow.holds Tryd.pinned (OpenSpec.ofChange scanJoinsWrong)

/-- 'jackfieldlaw06.ScanStays': WHATEVER THE INPUT: true; the input reads as it did. -/
def scanStaysSpec : ChangeSpec := { name := "scanStays", fn := fun _ => fun
  | [d1, d2] => { results := [.lit (.bool true)], args := [d1, d2] }
  | _ => none }
def scanStaysRow : OpenClaim := { program := "ytpekagkhgegefaadoor", sum := "422fdf1fc4a95a641b867d7d1383295580a25e0afa794c615ccdfa6ced6d140a", func := "jackfield/jackfieldlaw06.ScanStays", spec := "scanStays", inPlace := ["math.Float64bits", "math.Float64frombits", "internal/bytealg.IndexByteString"], named := ["jackfield/api.ErrFrame", "jackfield/api.ErrBroken", "jackfield/hash.round", "jackfield/api.ErrState", "jackfield/api.ErrTail", "jackfield/api.ErrShort", "jackfield/api.ErrRange", "jackfield/api.ErrLong"], apart := false, laid := [("jackfield/api.ErrRange", laid_jackfield_api_ErrRange), ("jackfield/api.ErrShort", laid_jackfield_api_ErrShort), ("jackfield/api.ErrLong", laid_jackfield_api_ErrLong), ("jackfield/api.ErrTail", laid_jackfield_api_ErrTail), ("jackfield/api.ErrBroken", laid_jackfield_api_ErrBroken), ("jackfield/api.ErrFrame", laid_jackfield_api_ErrFrame), ("jackfield/api.ErrState", laid_jackfield_api_ErrState), ("jackfield/hash.round", laid_jackfield_hash_round)] }
def ScanStaysSaid : Prop := scanStaysRow.holds Tryd.pinned (OpenSpec.ofChange scanStaysSpec)

/-- ITS FALSE NEIGHBOUR: 'it returns false'. Refute it at one input. -/
def scanStaysWrong : ChangeSpec := { name := "scanStays", fn := fun _ => fun
  | [d1, d2] => { results := [.lit (.bool false)], args := [d1, d2] }
  | _ => none }
def ScanStaysWrongFalsely : Prop := scanStaysRow.holds Tryd.pinned (OpenSpec.ofChange scanStaysWrong)

/-- 'jackfieldlaw06.ScanSplits': WHATEVER THE INPUT: true; the input reads as it did. -/
def scanSplitsSpec : ChangeSpec := { name := "scanSplits", fn := fun _ => fun
  | [d] => { results := [.lit (.bool true)], args := [d] }
  | _ => none }
def scanSplitsRow : OpenClaim := { program := "ytpekagkhgegefaadoor", sum := "422fdf1fc4a95a641b867d7d1383295580a25e0afa794c615ccdfa6ced6d140a", func := "jackfield/jackfieldlaw06.ScanSplits", spec := "scanSplits", inPlace := ["math.Float64bits", "math.Float64frombits", "internal/bytealg.IndexByteString"], named := ["jackfield/api.ErrFrame", "jackfield/api.ErrBroken", "jackfield/hash.round", "jackfield/api.ErrState", "jackfield/api.ErrTail", "jackfield/api.ErrShort", "jackfield/api.ErrRange", "jackfield/api.ErrLong", "jackfield/api.ErrPower", "jackfield/api.ErrFull", "jackfield/api.ErrGap", "jackfield/api.ErrName", "jackfield/api.ErrTaken", "jackfield/api.ErrNone", "jackfield/api.ErrOwner", "jackfield/api.ErrProof", "jackfield/api.ErrWindow", "jackfield/api.ErrStream", "jackfield/api.ErrBusy"], apart := false, laid := [("jackfield/api.ErrRange", laid_jackfield_api_ErrRange), ("jackfield/api.ErrShort", laid_jackfield_api_ErrShort), ("jackfield/api.ErrLong", laid_jackfield_api_ErrLong), ("jackfield/api.ErrTail", laid_jackfield_api_ErrTail), ("jackfield/api.ErrBroken", laid_jackfield_api_ErrBroken), ("jackfield/api.ErrPower", laid_jackfield_api_ErrPower), ("jackfield/api.ErrFrame", laid_jackfield_api_ErrFrame), ("jackfield/api.ErrFull", laid_jackfield_api_ErrFull), ("jackfield/api.ErrGap", laid_jackfield_api_ErrGap), ("jackfield/api.ErrName", laid_jackfield_api_ErrName), ("jackfield/api.ErrTaken", laid_jackfield_api_ErrTaken), ("jackfield/api.ErrNone", laid_jackfield_api_ErrNone), ("jackfield/api.ErrOwner", laid_jackfield_api_ErrOwner), ("jackfield/api.ErrProof", laid_jackfield_api_ErrProof), ("jackfield/api.ErrWindow", laid_jackfield_api_ErrWindow), ("jackfield/api.ErrStream", laid_jackfield_api_ErrStream), ("jackfield/api.ErrState", laid_jackfield_api_ErrState), ("jackfield/api.ErrBusy", laid_jackfield_api_ErrBusy), ("jackfield/hash.round", laid_jackfield_hash_round)] }
def ScanSplitsSaid : Prop := scanSplitsRow.holds Tryd.pinned (OpenSpec.ofChange scanSplitsSpec)

/-- ITS FALSE NEIGHBOUR: 'it returns false'. Refute it at one input. -/
def scanSplitsWrong : ChangeSpec := { name := "scanSplits", fn := fun _ => fun
  | [d] => { results := [.lit (.bool false)], args := [d] }
  | _ => none }
def ScanSplitsWrongFalsely : Prop := scanSplitsRow.holds Tryd.pinned (OpenSpec.ofChange scanSplitsWrong)

/-- 'jackfieldlaw06.ScanFirst': WHATEVER THE INPUT: true; the input reads as it did. -/
def scanFirstSpec : ChangeSpec := { name := "scanFirst", fn := fun _ => fun
  | [d1, d2, d3] => { results := [.lit (.bool true)], args := [d1, d2, d3] }
  | _ => none }
def scanFirstRow : OpenClaim := { program := "ytpekagkhgegefaadoor", sum := "422fdf1fc4a95a641b867d7d1383295580a25e0afa794c615ccdfa6ced6d140a", func := "jackfield/jackfieldlaw06.ScanFirst", spec := "scanFirst", inPlace := ["math.Float64bits", "math.Float64frombits", "internal/bytealg.IndexByteString"], named := ["jackfield/api.ErrFrame", "jackfield/api.ErrBroken", "jackfield/hash.round", "jackfield/api.ErrState", "jackfield/api.ErrTail", "jackfield/api.ErrShort", "jackfield/api.ErrRange", "jackfield/api.ErrLong"], apart := false, laid := [("jackfield/api.ErrRange", laid_jackfield_api_ErrRange), ("jackfield/api.ErrShort", laid_jackfield_api_ErrShort), ("jackfield/api.ErrLong", laid_jackfield_api_ErrLong), ("jackfield/api.ErrTail", laid_jackfield_api_ErrTail), ("jackfield/api.ErrBroken", laid_jackfield_api_ErrBroken), ("jackfield/api.ErrFrame", laid_jackfield_api_ErrFrame), ("jackfield/api.ErrState", laid_jackfield_api_ErrState), ("jackfield/hash.round", laid_jackfield_hash_round)] }
def ScanFirstSaid : Prop := scanFirstRow.holds Tryd.pinned (OpenSpec.ofChange scanFirstSpec)

/-- ITS FALSE NEIGHBOUR: 'it returns false'. Refute it at one input. -/
def scanFirstWrong : ChangeSpec := { name := "scanFirst", fn := fun _ => fun
  | [d1, d2, d3] => { results := [.lit (.bool false)], args := [d1, d2, d3] }
  | _ => none }
def ScanFirstWrongFalsely : Prop := scanFirstRow.holds Tryd.pinned (OpenSpec.ofChange scanFirstWrong)

/- THE SECOND FORM. 'bulk': how many values and letters a reading holds, each counted each time it is reached (what is shared counts as often as it is met; a slice's spare places count too). A statement '..UptoSaid' is the law's where the arguments, and the package variables that the reading takes, are together of bulk at most 1048576: NARROWER than '..Said'. Prove '..Said' where nothing that the law and all that it calls make is longer than what came in: it says more and counts as full. Else prove '..UptoSaid'. A law counts once. -/
mutual
def uptoBulk {H : Type} : DataW H → Nat
  | .lit (.string bytes) => bytes.length + 1
  | .lit _ => 1
  | .nil => 1
  | .ptr d => uptoBulk d + 1
  | .slice elems spare => uptoBulkAll elems + uptoBulkAll spare + 1
  | .agg parts => uptoBulkAll parts + 1
  | .iface _ d => uptoBulk d + 1
  | .map entries => uptoBulkEntries entries + 1
  | .held _ => 1
def uptoBulkAll {H : Type} : List (DataW H) → Nat
  | [] => 0
  | d :: r => uptoBulk d + uptoBulkAll r
def uptoBulkEntries {H : Type} : List (Lit × DataW H) → Nat
  | [] => 0
  | x :: r => uptoBulkEntry x + uptoBulkEntries r
def uptoBulkEntry {H : Type} : Lit × DataW H → Nat
  | (.string bytes, d) => bytes.length + uptoBulk d + 1
  | (_, d) => uptoBulk d + 1
 end
def uptoSmall : (H : Type) → List (DataW H) → Bool := fun _ ds => decide (uptoBulkAll ds ≤ 1048576)
def OpenSpec.upto (s : _root_.Go.ChangeSpec) : _root_.Go.OpenSpec := { _root_.Go.OpenSpec.ofChange s with cond := some uptoSmall }

/-- 'jackfieldlaw05.FrameFields', WHERE WHAT IT READS IS OF BULK AT MOST 1048576: true; the input reads as it did. -/
def frameFieldsUptoRow : OpenClaim := { program := "ytpekagkhgegefaadoor", sum := "422fdf1fc4a95a641b867d7d1383295580a25e0afa794c615ccdfa6ced6d140a", func := "jackfield/jackfieldlaw05.FrameFields", spec := "frameFields", inPlace := ["math.Float64bits", "internal/bytealg.IndexByteString"], named := ["jackfield/api.ErrFrame", "jackfield/api.ErrState", "jackfield/api.ErrLong", "jackfield/api.ErrRange", "jackfield/hash.round"], apart := false, laid := [("jackfield/api.ErrRange", laid_jackfield_api_ErrRange), ("jackfield/api.ErrLong", laid_jackfield_api_ErrLong), ("jackfield/api.ErrFrame", laid_jackfield_api_ErrFrame), ("jackfield/api.ErrState", laid_jackfield_api_ErrState), ("jackfield/hash.round", laid_jackfield_hash_round)], narrowed := true }
def FrameFieldsUptoSaid : Prop := frameFieldsUptoRow.holds Tryd.pinned (OpenSpec.upto frameFieldsSpec)

/-- 'jackfieldlaw05.FrameRows', WHERE WHAT IT READS IS OF BULK AT MOST 1048576: true; the input reads as it did. -/
def frameRowsUptoRow : OpenClaim := { program := "ytpekagkhgegefaadoor", sum := "422fdf1fc4a95a641b867d7d1383295580a25e0afa794c615ccdfa6ced6d140a", func := "jackfield/jackfieldlaw05.FrameRows", spec := "frameRows", inPlace := ["math.Float64bits", "internal/bytealg.IndexByteString"], named := ["jackfield/api.ErrFrame", "jackfield/api.ErrState", "jackfield/api.ErrLong", "jackfield/api.ErrRange", "jackfield/hash.round"], apart := false, laid := [("jackfield/api.ErrRange", laid_jackfield_api_ErrRange), ("jackfield/api.ErrLong", laid_jackfield_api_ErrLong), ("jackfield/api.ErrFrame", laid_jackfield_api_ErrFrame), ("jackfield/api.ErrState", laid_jackfield_api_ErrState), ("jackfield/hash.round", laid_jackfield_hash_round)], narrowed := true }
def FrameRowsUptoSaid : Prop := frameRowsUptoRow.holds Tryd.pinned (OpenSpec.upto frameRowsSpec)

/-- 'jackfieldlaw06.ScanFeeds', WHERE WHAT IT READS IS OF BULK AT MOST 1048576: true; the input reads as it did. -/
def scanFeedsUptoRow : OpenClaim := { program := "ytpekagkhgegefaadoor", sum := "422fdf1fc4a95a641b867d7d1383295580a25e0afa794c615ccdfa6ced6d140a", func := "jackfield/jackfieldlaw06.ScanFeeds", spec := "scanFeeds", inPlace := ["math.Float64bits", "math.Float64frombits", "internal/bytealg.IndexByteString"], named := ["jackfield/api.ErrBroken", "jackfield/api.ErrFrame", "jackfield/hash.round", "jackfield/api.ErrState", "jackfield/api.ErrTail", "jackfield/api.ErrShort", "jackfield/api.ErrRange", "jackfield/api.ErrLong", "jackfield/api.ErrPower", "jackfield/api.ErrFull", "jackfield/api.ErrGap", "jackfield/api.ErrName", "jackfield/api.ErrTaken", "jackfield/api.ErrNone", "jackfield/api.ErrOwner", "jackfield/api.ErrProof", "jackfield/api.ErrWindow", "jackfield/api.ErrStream", "jackfield/api.ErrBusy"], apart := false, laid := [("jackfield/api.ErrRange", laid_jackfield_api_ErrRange), ("jackfield/api.ErrShort", laid_jackfield_api_ErrShort), ("jackfield/api.ErrLong", laid_jackfield_api_ErrLong), ("jackfield/api.ErrTail", laid_jackfield_api_ErrTail), ("jackfield/api.ErrBroken", laid_jackfield_api_ErrBroken), ("jackfield/api.ErrPower", laid_jackfield_api_ErrPower), ("jackfield/api.ErrFrame", laid_jackfield_api_ErrFrame), ("jackfield/api.ErrFull", laid_jackfield_api_ErrFull), ("jackfield/api.ErrGap", laid_jackfield_api_ErrGap), ("jackfield/api.ErrName", laid_jackfield_api_ErrName), ("jackfield/api.ErrTaken", laid_jackfield_api_ErrTaken), ("jackfield/api.ErrNone", laid_jackfield_api_ErrNone), ("jackfield/api.ErrOwner", laid_jackfield_api_ErrOwner), ("jackfield/api.ErrProof", laid_jackfield_api_ErrProof), ("jackfield/api.ErrWindow", laid_jackfield_api_ErrWindow), ("jackfield/api.ErrStream", laid_jackfield_api_ErrStream), ("jackfield/api.ErrState", laid_jackfield_api_ErrState), ("jackfield/api.ErrBusy", laid_jackfield_api_ErrBusy), ("jackfield/hash.round", laid_jackfield_hash_round)], narrowed := true }
def ScanFeedsUptoSaid : Prop := scanFeedsUptoRow.holds Tryd.pinned (OpenSpec.upto scanFeedsSpec)

/-- 'jackfieldlaw05.FrameGets', WHERE WHAT IT READS IS OF BULK AT MOST 1048576: true; the input reads as it did. -/
def frameGetsUptoRow : OpenClaim := { program := "ytpekagkhgegefaadoor", sum := "422fdf1fc4a95a641b867d7d1383295580a25e0afa794c615ccdfa6ced6d140a", func := "jackfield/jackfieldlaw05.FrameGets", spec := "frameGets", inPlace := ["math.Float64bits", "internal/bytealg.IndexByteString", "math.Float64frombits"], named := ["jackfield/api.ErrFrame", "jackfield/api.ErrState", "jackfield/api.ErrLong", "jackfield/api.ErrRange", "jackfield/hash.round", "jackfield/api.ErrTail", "jackfield/api.ErrShort"], apart := false, laid := [("jackfield/api.ErrRange", laid_jackfield_api_ErrRange), ("jackfield/api.ErrShort", laid_jackfield_api_ErrShort), ("jackfield/api.ErrLong", laid_jackfield_api_ErrLong), ("jackfield/api.ErrTail", laid_jackfield_api_ErrTail), ("jackfield/api.ErrFrame", laid_jackfield_api_ErrFrame), ("jackfield/api.ErrState", laid_jackfield_api_ErrState), ("jackfield/hash.round", laid_jackfield_hash_round)], narrowed := true }
def FrameGetsUptoSaid : Prop := frameGetsUptoRow.holds Tryd.pinned (OpenSpec.upto frameGetsSpec)

/-- 'jackfieldlaw05.FrameUnlike', WHERE WHAT IT READS IS OF BULK AT MOST 1048576: true; the input reads as it did. -/
def frameUnlikeUptoRow : OpenClaim := { program := "ytpekagkhgegefaadoor", sum := "422fdf1fc4a95a641b867d7d1383295580a25e0afa794c615ccdfa6ced6d140a", func := "jackfield/jackfieldlaw05.FrameUnlike", spec := "frameUnlike", inPlace := ["math.Float64bits", "internal/bytealg.IndexByteString", "math.Float64frombits"], named := ["jackfield/api.ErrFrame", "jackfield/api.ErrState", "jackfield/api.ErrLong", "jackfield/api.ErrRange", "jackfield/hash.round", "jackfield/api.ErrTail", "jackfield/api.ErrShort"], apart := false, laid := [("jackfield/api.ErrRange", laid_jackfield_api_ErrRange), ("jackfield/api.ErrShort", laid_jackfield_api_ErrShort), ("jackfield/api.ErrLong", laid_jackfield_api_ErrLong), ("jackfield/api.ErrTail", laid_jackfield_api_ErrTail), ("jackfield/api.ErrFrame", laid_jackfield_api_ErrFrame), ("jackfield/api.ErrState", laid_jackfield_api_ErrState), ("jackfield/hash.round", laid_jackfield_hash_round)], narrowed := true }
def FrameUnlikeUptoSaid : Prop := frameUnlikeUptoRow.holds Tryd.pinned (OpenSpec.upto frameUnlikeSpec)

/-- 'jackfieldlaw05.FrameLengths', WHERE WHAT IT READS IS OF BULK AT MOST 1048576: true; the input reads as it did. -/
def frameLengthsUptoRow : OpenClaim := { program := "ytpekagkhgegefaadoor", sum := "422fdf1fc4a95a641b867d7d1383295580a25e0afa794c615ccdfa6ced6d140a", func := "jackfield/jackfieldlaw05.FrameLengths", spec := "frameLengths", inPlace := ["math.Float64bits", "internal/bytealg.IndexByteString", "math.Float64frombits"], named := ["jackfield/api.ErrFrame", "jackfield/api.ErrState", "jackfield/api.ErrLong", "jackfield/api.ErrRange", "jackfield/hash.round", "jackfield/api.ErrTail", "jackfield/api.ErrShort"], apart := false, laid := [("jackfield/api.ErrRange", laid_jackfield_api_ErrRange), ("jackfield/api.ErrShort", laid_jackfield_api_ErrShort), ("jackfield/api.ErrLong", laid_jackfield_api_ErrLong), ("jackfield/api.ErrTail", laid_jackfield_api_ErrTail), ("jackfield/api.ErrFrame", laid_jackfield_api_ErrFrame), ("jackfield/api.ErrState", laid_jackfield_api_ErrState), ("jackfield/hash.round", laid_jackfield_hash_round)], narrowed := true }
def FrameLengthsUptoSaid : Prop := frameLengthsUptoRow.holds Tryd.pinned (OpenSpec.upto frameLengthsSpec)

/-- 'jackfieldlaw05.FramePuts', WHERE WHAT IT READS IS OF BULK AT MOST 1048576: true; the input reads as it did. -/
def framePutsUptoRow : OpenClaim := { program := "ytpekagkhgegefaadoor", sum := "422fdf1fc4a95a641b867d7d1383295580a25e0afa794c615ccdfa6ced6d140a", func := "jackfield/jackfieldlaw05.FramePuts", spec := "framePuts", inPlace := ["math.Float64bits", "internal/bytealg.IndexByteString", "math.Float64frombits"], named := ["jackfield/api.ErrFrame", "jackfield/api.ErrState", "jackfield/api.ErrLong", "jackfield/api.ErrRange", "jackfield/hash.round", "jackfield/api.ErrShort", "jackfield/api.ErrTail", "jackfield/api.ErrBroken", "jackfield/api.ErrPower", "jackfield/api.ErrFull", "jackfield/api.ErrGap", "jackfield/api.ErrName", "jackfield/api.ErrTaken", "jackfield/api.ErrNone", "jackfield/api.ErrOwner", "jackfield/api.ErrProof", "jackfield/api.ErrWindow", "jackfield/api.ErrStream", "jackfield/api.ErrBusy"], apart := false, laid := [("jackfield/api.ErrRange", laid_jackfield_api_ErrRange), ("jackfield/api.ErrShort", laid_jackfield_api_ErrShort), ("jackfield/api.ErrLong", laid_jackfield_api_ErrLong), ("jackfield/api.ErrTail", laid_jackfield_api_ErrTail), ("jackfield/api.ErrBroken", laid_jackfield_api_ErrBroken), ("jackfield/api.ErrPower", laid_jackfield_api_ErrPower), ("jackfield/api.ErrFrame", laid_jackfield_api_ErrFrame), ("jackfield/api.ErrFull", laid_jackfield_api_ErrFull), ("jackfield/api.ErrGap", laid_jackfield_api_ErrGap), ("jackfield/api.ErrName", laid_jackfield_api_ErrName), ("jackfield/api.ErrTaken", laid_jackfield_api_ErrTaken), ("jackfield/api.ErrNone", laid_jackfield_api_ErrNone), ("jackfield/api.ErrOwner", laid_jackfield_api_ErrOwner), ("jackfield/api.ErrProof", laid_jackfield_api_ErrProof), ("jackfield/api.ErrWindow", laid_jackfield_api_ErrWindow), ("jackfield/api.ErrStream", laid_jackfield_api_ErrStream), ("jackfield/api.ErrState", laid_jackfield_api_ErrState), ("jackfield/api.ErrBusy", laid_jackfield_api_ErrBusy), ("jackfield/hash.round", laid_jackfield_hash_round)], narrowed := true }
def FramePutsUptoSaid : Prop := framePutsUptoRow.holds Tryd.pinned (OpenSpec.upto framePutsSpec)

/-- 'jackfieldlaw06.ScanJoins', WHERE WHAT IT READS IS OF BULK AT MOST 1048576: true; the input reads as it did. -/
def scanJoinsUptoRow : OpenClaim := { program := "ytpekagkhgegefaadoor", sum := "422fdf1fc4a95a641b867d7d1383295580a25e0afa794c615ccdfa6ced6d140a", func := "jackfield/jackfieldlaw06.ScanJoins", spec := "scanJoins", inPlace := ["math.Float64bits", "math.Float64frombits", "internal/bytealg.IndexByteString"], named := ["jackfield/api.ErrFrame", "jackfield/api.ErrBroken", "jackfield/hash.round", "jackfield/api.ErrState", "jackfield/api.ErrTail", "jackfield/api.ErrShort", "jackfield/api.ErrRange", "jackfield/api.ErrLong"], apart := false, laid := [("jackfield/api.ErrRange", laid_jackfield_api_ErrRange), ("jackfield/api.ErrShort", laid_jackfield_api_ErrShort), ("jackfield/api.ErrLong", laid_jackfield_api_ErrLong), ("jackfield/api.ErrTail", laid_jackfield_api_ErrTail), ("jackfield/api.ErrBroken", laid_jackfield_api_ErrBroken), ("jackfield/api.ErrFrame", laid_jackfield_api_ErrFrame), ("jackfield/api.ErrState", laid_jackfield_api_ErrState), ("jackfield/hash.round", laid_jackfield_hash_round)], narrowed := true }
def ScanJoinsUptoSaid : Prop := scanJoinsUptoRow.holds Tryd.pinned (OpenSpec.upto scanJoinsSpec)

/-- 'jackfieldlaw06.ScanStays', WHERE WHAT IT READS IS OF BULK AT MOST 1048576: true; the input reads as it did. -/
def scanStaysUptoRow : OpenClaim := { program := "ytpekagkhgegefaadoor", sum := "422fdf1fc4a95a641b867d7d1383295580a25e0afa794c615ccdfa6ced6d140a", func := "jackfield/jackfieldlaw06.ScanStays", spec := "scanStays", inPlace := ["math.Float64bits", "math.Float64frombits", "internal/bytealg.IndexByteString"], named := ["jackfield/api.ErrFrame", "jackfield/api.ErrBroken", "jackfield/hash.round", "jackfield/api.ErrState", "jackfield/api.ErrTail", "jackfield/api.ErrShort", "jackfield/api.ErrRange", "jackfield/api.ErrLong"], apart := false, laid := [("jackfield/api.ErrRange", laid_jackfield_api_ErrRange), ("jackfield/api.ErrShort", laid_jackfield_api_ErrShort), ("jackfield/api.ErrLong", laid_jackfield_api_ErrLong), ("jackfield/api.ErrTail", laid_jackfield_api_ErrTail), ("jackfield/api.ErrBroken", laid_jackfield_api_ErrBroken), ("jackfield/api.ErrFrame", laid_jackfield_api_ErrFrame), ("jackfield/api.ErrState", laid_jackfield_api_ErrState), ("jackfield/hash.round", laid_jackfield_hash_round)], narrowed := true }
def ScanStaysUptoSaid : Prop := scanStaysUptoRow.holds Tryd.pinned (OpenSpec.upto scanStaysSpec)

/-- 'jackfieldlaw06.ScanSplits', WHERE WHAT IT READS IS OF BULK AT MOST 1048576: true; the input reads as it did. -/
def scanSplitsUptoRow : OpenClaim := { program := "ytpekagkhgegefaadoor", sum := "422fdf1fc4a95a641b867d7d1383295580a25e0afa794c615ccdfa6ced6d140a", func := "jackfield/jackfieldlaw06.ScanSplits", spec := "scanSplits", inPlace := ["math.Float64bits", "math.Float64frombits", "internal/bytealg.IndexByteString"], named := ["jackfield/api.ErrFrame", "jackfield/api.ErrBroken", "jackfield/hash.round", "jackfield/api.ErrState", "jackfield/api.ErrTail", "jackfield/api.ErrShort", "jackfield/api.ErrRange", "jackfield/api.ErrLong", "jackfield/api.ErrPower", "jackfield/api.ErrFull", "jackfield/api.ErrGap", "jackfield/api.ErrName", "jackfield/api.ErrTaken", "jackfield/api.ErrNone", "jackfield/api.ErrOwner", "jackfield/api.ErrProof", "jackfield/api.ErrWindow", "jackfield/api.ErrStream", "jackfield/api.ErrBusy"], apart := false, laid := [("jackfield/api.ErrRange", laid_jackfield_api_ErrRange), ("jackfield/api.ErrShort", laid_jackfield_api_ErrShort), ("jackfield/api.ErrLong", laid_jackfield_api_ErrLong), ("jackfield/api.ErrTail", laid_jackfield_api_ErrTail), ("jackfield/api.ErrBroken", laid_jackfield_api_ErrBroken), ("jackfield/api.ErrPower", laid_jackfield_api_ErrPower), ("jackfield/api.ErrFrame", laid_jackfield_api_ErrFrame), ("jackfield/api.ErrFull", laid_jackfield_api_ErrFull), ("jackfield/api.ErrGap", laid_jackfield_api_ErrGap), ("jackfield/api.ErrName", laid_jackfield_api_ErrName), ("jackfield/api.ErrTaken", laid_jackfield_api_ErrTaken), ("jackfield/api.ErrNone", laid_jackfield_api_ErrNone), ("jackfield/api.ErrOwner", laid_jackfield_api_ErrOwner), ("jackfield/api.ErrProof", laid_jackfield_api_ErrProof), ("jackfield/api.ErrWindow", laid_jackfield_api_ErrWindow), ("jackfield/api.ErrStream", laid_jackfield_api_ErrStream), ("jackfield/api.ErrState", laid_jackfield_api_ErrState), ("jackfield/api.ErrBusy", laid_jackfield_api_ErrBusy), ("jackfield/hash.round", laid_jackfield_hash_round)], narrowed := true }
def ScanSplitsUptoSaid : Prop := scanSplitsUptoRow.holds Tryd.pinned (OpenSpec.upto scanSplitsSpec)

/-- 'jackfieldlaw06.ScanFirst', WHERE WHAT IT READS IS OF BULK AT MOST 1048576: true; the input reads as it did. -/
def scanFirstUptoRow : OpenClaim := { program := "ytpekagkhgegefaadoor", sum := "422fdf1fc4a95a641b867d7d1383295580a25e0afa794c615ccdfa6ced6d140a", func := "jackfield/jackfieldlaw06.ScanFirst", spec := "scanFirst", inPlace := ["math.Float64bits", "math.Float64frombits", "internal/bytealg.IndexByteString"], named := ["jackfield/api.ErrFrame", "jackfield/api.ErrBroken", "jackfield/hash.round", "jackfield/api.ErrState", "jackfield/api.ErrTail", "jackfield/api.ErrShort", "jackfield/api.ErrRange", "jackfield/api.ErrLong"], apart := false, laid := [("jackfield/api.ErrRange", laid_jackfield_api_ErrRange), ("jackfield/api.ErrShort", laid_jackfield_api_ErrShort), ("jackfield/api.ErrLong", laid_jackfield_api_ErrLong), ("jackfield/api.ErrTail", laid_jackfield_api_ErrTail), ("jackfield/api.ErrBroken", laid_jackfield_api_ErrBroken), ("jackfield/api.ErrFrame", laid_jackfield_api_ErrFrame), ("jackfield/api.ErrState", laid_jackfield_api_ErrState), ("jackfield/hash.round", laid_jackfield_hash_round)], narrowed := true }
def ScanFirstUptoSaid : Prop := scanFirstUptoRow.holds Tryd.pinned (OpenSpec.upto scanFirstSpec)

end Rows
end Go.Proofs.YtpekagkhgegefaaDoor
