/- FieldsFloats: whatever 64 bits, the float of these bits goes through Encode and Decode bit by bit: the statement's tied card, for every input. No condition beyond the row's own list of sentinels, which the card ties to the program's text. -/
import Derived.Test.YtkencpfmbcjppaaDoorRow
import Derived.Test.YtkencpfmbcjppaaDoorLa
set_option linter.unusedVariables false
set_option linter.unusedSimpArgs false
set_option linter.unnecessarySimpa false
namespace Go.Proofs.YtkencpfmbcjppaaDoor.CFloats
open Go.RowKit Go.ChangeShapes Go.WideShapes Go.ChangeAt

/-- The sentinels that the row lists. -/
theorem errs {W : World} (hL : laidMetH Tryd.prog Rows.fieldsFloatsRow.laid W) : ∃ es : Er → Addr, E5 W.heap.size W es := by
  rw [MakeChecks.laidMetH_plain _ _ _ (by kernel_rfl)] at hL
  obtain ⟨a1, _, h1, _⟩ := laid_err (n := "jackfield/api.ErrRange") (g := 4) hL (by kernel_rfl) (by kernel_rfl)
  obtain ⟨a2, _, h2, _⟩ := laid_err (n := "jackfield/api.ErrShort") (g := 1) hL.tail (by kernel_rfl) (by kernel_rfl)
  obtain ⟨a3, _, h3, _⟩ := laid_err (n := "jackfield/api.ErrLong") (g := 5) hL.tail.tail (by kernel_rfl) (by kernel_rfl)
  obtain ⟨a4, _, h4, _⟩ := laid_err (n := "jackfield/api.ErrTail") (g := 0) hL.tail.tail.tail (by kernel_rfl) (by kernel_rfl)
  obtain ⟨a5, _, h5, _⟩ := laid_err (n := "jackfield/api.ErrState") (g := 2) hL.tail.tail.tail.tail (by kernel_rfl) (by kernel_rfl)
  exact ⟨fun | .range => a1 | .short => a2 | .long => a3 | .tail => a4 | _ => a5, ⟨h1, h2, h3, h4, h5⟩⟩

theorem laid_met (os : Os) (args : Array Value) : laidMetH Tryd.prog Rows.fieldsFloatsRow.laid ((World.doorLaid Tryd.prog 400 os).forCall (fun _ _ => 0) ⟨#[], args, []⟩).memory :=
  laidMetH_of_parts3 (fuel := 8) (laidMet_of_run' 8 (by kernel_rfl) (by kernel_rfl)) (by kernel_rfl) (by kernel_rfl)

theorem contract (H : Type) (enc : TypeId × Value → H) (W : World) (base : Nat) (args : Array Value) (ds gs : List (DataW H)) (before : List MemPlace)
    (hval : ∀ (j : Nat) t v, Tryd.f5.params[j]? = some t → args[j]? = some v → Value.okWide Tryd.prog W .any base t v)
    (hW : DataW.Whole enc Tryd.prog Tryd.f5.params.toList Rows.fieldsFloatsSpec.vars false W args.toList ds gs before) (hL : laidMetH Tryd.prog Rows.fieldsFloatsRow.laid W) :
    Calls Tryd.prog 5 args W fun e W' => ∃ v, e = .returned v ∧ Rows.fieldsFloatsSpec.post enc Tryd.prog Tryd.f5 false true false false W args v W' := by
  obtain ⟨es, hE⟩ := errs hL
  have hW' := hW
  obtain ⟨p, q, hA0, hV, rfl, hfz, hnd⟩ := hW
  have hA : DataW.TrodAll enc Tryd.prog W 0 (fun _ => true) true Tryd.f5.params.toList args.toList ds p := hA0
  rw [Tryd.params5] at hA hval
  obtain ⟨v0, d0, rfl, rfl, h0⟩ := trodAll_one hA
  obtain ⟨u, rfl, rfl, rfl, wu⟩ := open_int Tryd.underlying34 (hval 0 34 v0 rfl rfl) h0
  have hwf := bounds_u64 wu
  obtain ⟨n, rfl⟩ := Int.eq_ofNat_of_zero_le hwf.1
  refine (floats_walk es W n (by omega) hE).mono fun e W' ⟨he, hb⟩ => ?_
  subst he
  exact ⟨_, rfl, post_of_law rowLaidOut hW' rfl (by kernel_rfl) Tryd.underlying4 rfl rfl hb⟩

set_option maxRecDepth 100000 in
theorem lifted (os : Os) (started : os.Started) (H : Type) (enc : TypeId × Value → H) (F : Stop.Interp) :
    ReturnsInHanded {} Tryd.checked os 5 .any ((OpenSpec.ofChange Rows.fieldsFloatsSpec).preRow enc Tryd.prog Tryd.f5 Rows.fieldsFloatsRow.domain false Rows.fieldsFloatsRow.laid)
      (((OpenSpec.ofChange Rows.fieldsFloatsSpec).at F).post enc Tryd.prog Tryd.f5 false true false false) := by
  obtain ⟨places, hx⟩ : ∃ places, DataW.whole enc Tryd.prog ((World.doorLaid Tryd.prog 400 os).forCall (fun _ _ => 0) ⟨#[], #[.int .u64 0], []⟩).memory Tryd.f5.params.toList Rows.fieldsFloatsSpec.vars false #[Value.int .u64 0].toList 8 = some ([.lit (.int .u64 0)], [], places) :=
    ⟨[], by kernel_rfl⟩
  refine returnsInHanded_of_row (C := Tryd.checked) (s := OpenSpec.ofChange Rows.fieldsFloatsSpec) rowOwn started (by kernel_rfl) Tryd.func5
    (witness_row_atRef (enc := enc) (C := Tryd.checked) false (World.doorLaid Tryd.prog 400 os) #[.int .u64 0] rfl (by kernel_rfl) (by kernel_rfl) (by kernel_rfl)
      (OpenSpec.preRow_of_cond 8 hx (by kernel_rfl) (fun k hk => by cases hk) (by kernel_rfl) (laid_met os _))) ?_
  intro W base args ds gs before hval hW _ _ _ hL _ _
  exact contract H enc W base args ds gs before hval hW hL

theorem said : Rows.FieldsFloatsSaid :=
  OpenClaim.holds_of_cond 5 Tryd.f5 rfl rfl rfl rfl rfl rfl rfl ⟨rfl, rfl, rfl, rfl, rfl⟩ rfl rfl rfl rfl rfl (by kernel_rfl) Tryd.func5 (by kernel_rfl)
    (of_decide_eq_true (by kernel_rfl)) (by unfold Func.isWrapper; first | (rw [if_pos (by decide +kernel)]; kernel_rfl) | (rw [if_neg (by decide +kernel)]; exact ⟨rfl, rfl⟩))
    (fun os started H enc _ F => by rw [OpenClaim.pre_eq_preRow]; exact lifted os started H enc F)

/-- No parameter wants a stand-in; the program's own looks are on: what the card asks. -/
theorem plain (f : FuncId) (fn : Func) (hf : Tryd.pinned.checked.prog.funcNamed "jackfield/jackfieldlaw01.FieldsFloats" = some f) (hfn : Tryd.pinned.checked.prog.funcs[f]? = some fn) :
    true = Tryd.pinned.checked.prog.looks [] ∧ ∀ (j : Nat) t, fn.params[j]? = some t → Tryd.pinned.checked.prog.wantsStandIn t = false := by
  obtain rfl : f = 5 := Option.some.inj ((show Tryd.prog.funcNamed "jackfield/jackfieldlaw01.FieldsFloats" = some 5 by kernel_rfl).symm.trans hf) |>.symm
  obtain rfl : fn = Tryd.f5 := (Option.some.inj (Tryd.func5.symm.trans hfn)).symm
  refine ⟨by kernel_rfl, fun j t ht => ?_⟩
  rw [Tryd.params5] at ht
  have hm := Array.mem_of_getElem? ht
  have hall : (#[34].all fun t => !Tryd.prog.wantsStandIn t) = true := by kernel_rfl
  have := Array.all_eq_true'.1 hall t hm
  show Tryd.prog.wantsStandIn t = false
  simpa using this

/-- THE CARD. -/
theorem card : Rows.FieldsFloatsCardSaid :=
  Claim7.holds_tied_plain_at .later [] _ _ _ _ said (fun _ h => by cases h) (by kernel_rfl) (fun _ h => by cases h) fieldsFloats_row_tie rfl ⟨rfl, rfl⟩ (by kernel_rfl) rfl plain (by kernel_rfl)
end Go.Proofs.YtkencpfmbcjppaaDoor.CFloats
#print axioms Go.Proofs.YtkencpfmbcjppaaDoor.CFloats.card
