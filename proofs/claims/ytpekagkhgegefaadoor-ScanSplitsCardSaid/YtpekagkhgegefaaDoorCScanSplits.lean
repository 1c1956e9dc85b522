/- ScanSplits: Split of all bytes: for every input; its tied card. -/
import Derived.Test.YtpekagkhgegefaaDoorOpen
import Derived.Test.YtpekagkhgegefaaDoorOpf
import Derived.Test.YtpekagkhgegefaaDoorSl
import Derived.Test.YtpekagkhgegefaaDoorMv
set_option linter.unusedVariables false
set_option linter.unusedSimpArgs false
set_option linter.unnecessarySimpa false
namespace Go.Proofs.YtpekagkhgegefaaDoor.CScanSplits
open Go.RowKit Go.ChangeShapes Go.WideShapes Go.ChangeAt

set_option maxRecDepth 8000 in
/-- What the row lists. -/
theorem envs {W : World} (hL : laidMetH Tryd.prog Rows.scanSplitsRow.laid W) : ∃ es : Er → Addr, GEnv W es ∧ E18 W.heap.size W es := by
  rw [MakeChecks.laidMetH_plain _ _ _ (by kernel_rfl)] at hL
  obtain ⟨a0, s0, h0, c0, t0⟩ := laid_err (n := "jackfield/api.ErrRange") (g := 2) hL (by kernel_rfl) (by kernel_rfl)
  obtain ⟨a1, s1, h1, c1, t1⟩ := laid_err (n := "jackfield/api.ErrShort") (g := 3) hL.tail (by kernel_rfl) (by kernel_rfl)
  obtain ⟨a2, s2, h2, c2, t2⟩ := laid_err (n := "jackfield/api.ErrLong") (g := 4) hL.tail.tail (by kernel_rfl) (by kernel_rfl)
  obtain ⟨a3, s3, h3, c3, t3⟩ := laid_err (n := "jackfield/api.ErrTail") (g := 5) hL.tail.tail.tail (by kernel_rfl) (by kernel_rfl)
  obtain ⟨a4, s4, h4, c4, t4⟩ := laid_err (n := "jackfield/api.ErrBroken") (g := 1) hL.tail.tail.tail.tail (by kernel_rfl) (by kernel_rfl)
  obtain ⟨a5, s5, h5, c5, t5⟩ := laid_err (n := "jackfield/api.ErrPower") (g := 6) hL.tail.tail.tail.tail.tail (by kernel_rfl) (by kernel_rfl)
  obtain ⟨a6, s6, h6, c6, t6⟩ := laid_err (n := "jackfield/api.ErrFrame") (g := 0) hL.tail.tail.tail.tail.tail.tail (by kernel_rfl) (by kernel_rfl)
  obtain ⟨a7, s7, h7, c7, t7⟩ := laid_err (n := "jackfield/api.ErrFull") (g := 7) hL.tail.tail.tail.tail.tail.tail.tail (by kernel_rfl) (by kernel_rfl)
  obtain ⟨a8, s8, h8, c8, t8⟩ := laid_err (n := "jackfield/api.ErrGap") (g := 8) hL.tail.tail.tail.tail.tail.tail.tail.tail (by kernel_rfl) (by kernel_rfl)
  obtain ⟨a9, s9, h9, c9, t9⟩ := laid_err (n := "jackfield/api.ErrName") (g := 9) hL.tail.tail.tail.tail.tail.tail.tail.tail.tail (by kernel_rfl) (by kernel_rfl)
  obtain ⟨a10, s10, h10, c10, t10⟩ := laid_err (n := "jackfield/api.ErrTaken") (g := 10) hL.tail.tail.tail.tail.tail.tail.tail.tail.tail.tail (by kernel_rfl) (by kernel_rfl)
  obtain ⟨a11, s11, h11, c11, t11⟩ := laid_err (n := "jackfield/api.ErrNone") (g := 11) hL.tail.tail.tail.tail.tail.tail.tail.tail.tail.tail.tail (by kernel_rfl) (by kernel_rfl)
  obtain ⟨a12, s12, h12, c12, t12⟩ := laid_err (n := "jackfield/api.ErrOwner") (g := 12) hL.tail.tail.tail.tail.tail.tail.tail.tail.tail.tail.tail.tail (by kernel_rfl) (by kernel_rfl)
  obtain ⟨a13, s13, h13, c13, t13⟩ := laid_err (n := "jackfield/api.ErrProof") (g := 13) hL.tail.tail.tail.tail.tail.tail.tail.tail.tail.tail.tail.tail.tail (by kernel_rfl) (by kernel_rfl)
  obtain ⟨a14, s14, h14, c14, t14⟩ := laid_err (n := "jackfield/api.ErrWindow") (g := 14) hL.tail.tail.tail.tail.tail.tail.tail.tail.tail.tail.tail.tail.tail.tail (by kernel_rfl) (by kernel_rfl)
  obtain ⟨a15, s15, h15, c15, t15⟩ := laid_err (n := "jackfield/api.ErrStream") (g := 15) hL.tail.tail.tail.tail.tail.tail.tail.tail.tail.tail.tail.tail.tail.tail.tail (by kernel_rfl) (by kernel_rfl)
  obtain ⟨a16, s16, h16, c16, t16⟩ := laid_err (n := "jackfield/api.ErrState") (g := 16) hL.tail.tail.tail.tail.tail.tail.tail.tail.tail.tail.tail.tail.tail.tail.tail.tail (by kernel_rfl) (by kernel_rfl)
  obtain ⟨a17, s17, h17, c17, t17⟩ := laid_err (n := "jackfield/api.ErrBusy") (g := 17) hL.tail.tail.tail.tail.tail.tail.tail.tail.tail.tail.tail.tail.tail.tail.tail.tail.tail (by kernel_rfl) (by kernel_rfl)
  have hr := laid_round hL.tail.tail.tail.tail.tail.tail.tail.tail.tail.tail.tail.tail.tail.tail.tail.tail.tail.tail
  exact ⟨fun | .range => a0 | .short => a1 | .long => a2 | .tail => a3 | .broken => a4 | .power => a5 | .frame => a6 | .full => a7 | .gap => a8 | .name => a9 | .taken => a10 | .none => a11 | .owner => a12 | .proof => a13 | .window => a14 | .stream => a15 | .state => a16 | .busy => a17, ⟨⟨h0, h1, h2, h3, h16⟩, h6, hr⟩, mk18 (fun e => match e with | .range => h0 | .short => h1 | .long => h2 | .tail => h3 | .broken => h4 | .power => h5 | .frame => h6 | .full => h7 | .gap => h8 | .name => h9 | .taken => h10 | .none => h11 | .owner => h12 | .proof => h13 | .window => h14 | .stream => h15 | .state => h16 | .busy => h17) (fun e => match e with | .range => ⟨s0, c0, t0⟩ | .short => ⟨s1, c1, t1⟩ | .long => ⟨s2, c2, t2⟩ | .tail => ⟨s3, c3, t3⟩ | .broken => ⟨s4, c4, t4⟩ | .power => ⟨s5, c5, t5⟩ | .frame => ⟨s6, c6, t6⟩ | .full => ⟨s7, c7, t7⟩ | .gap => ⟨s8, c8, t8⟩ | .name => ⟨s9, c9, t9⟩ | .taken => ⟨s10, c10, t10⟩ | .none => ⟨s11, c11, t11⟩ | .owner => ⟨s12, c12, t12⟩ | .proof => ⟨s13, c13, t13⟩ | .window => ⟨s14, c14, t14⟩ | .stream => ⟨s15, c15, t15⟩ | .state => ⟨s16, c16, t16⟩ | .busy => ⟨s17, c17, t17⟩)⟩
theorem laid_met (os : Os) (args : Array Value) : laidMetH Tryd.prog Rows.scanSplitsRow.laid ((World.doorLaid Tryd.prog 400 os).forCall (fun _ _ => 0) ⟨#[], args, []⟩).memory :=
  laidMetH_of_parts3 (fuel := 8) (laidMet_of_run' 8 (by kernel_rfl) (by kernel_rfl)) (by kernel_rfl) (by kernel_rfl)

set_option maxRecDepth 100000 in
theorem contract (H : Type) (enc : TypeId × Value → H) (W : World) (base : Nat) (args : Array Value) (ds gs : List (DataW H)) (before : List MemPlace)
    (hval : ∀ (j : Nat) t v, Tryd.f12.params[j]? = some t → args[j]? = some v → Value.okWide Tryd.prog W .any base t v)
    (hW : DataW.Whole enc Tryd.prog Tryd.f12.params.toList Rows.scanSplitsSpec.vars false W args.toList ds gs before) (hL : laidMetH Tryd.prog Rows.scanSplitsRow.laid W) :
    Calls Tryd.prog 12 args W fun e W' => ∃ v, e = .returned v ∧ Rows.scanSplitsSpec.post enc Tryd.prog Tryd.f12 false true false false W args v W' := by
  obtain ⟨es, hE, hE18⟩ := envs hL
  have hW' := hW
  obtain ⟨p, q, hA0, hV, rfl, hfz, hnd⟩ := hW
  have hA : DataW.TrodAll enc Tryd.prog W 0 (fun _ => true) true Tryd.f12.params.toList args.toList ds p := hA0
  rw [Tryd.params12] at hA hval
  obtain ⟨v0, d0, rfl, rfl, h0⟩ := trodAll_one hA
  obtain ⟨A2, n2, c2, rfl⟩ := okWide_slice Tryd.underlying23 (hval 0 23 v0 rfl rfl)
  obtain ⟨fuel2, hf2⟩ := h0
  obtain ⟨B2, m2, k2, b2, e2, hn2, hc2, hm2, hR2, hw2⟩ := open_bytes Tryd.underlying23 Tryd.underlying5 (by kernel_rfl) hf2
  cases e2
  subst hn2
  refine (splits_walk es W A2 c2 b2 hE hE18 hR2 hc2 (by unfold maxLen at hm2; omega)).mono fun e W' ⟨he, hb⟩ => ?_
  subst he
  exact ⟨_, rfl, post_of_law rowLaidOut hW' rfl (by kernel_rfl) Tryd.underlying4 rfl rfl hb⟩

set_option maxRecDepth 100000 in
theorem lifted (os : Os) (started : os.Started) (H : Type) (enc : TypeId × Value → H) (F : Stop.Interp) :
    ReturnsInHanded {} Tryd.checked os 12 .any ((OpenSpec.ofChange Rows.scanSplitsSpec).preRow enc Tryd.prog Tryd.f12 Rows.scanSplitsRow.domain false Rows.scanSplitsRow.laid)
      (((OpenSpec.ofChange Rows.scanSplitsSpec).at F).post enc Tryd.prog Tryd.f12 false true false false) := by
  obtain ⟨places, hx⟩ : ∃ places, DataW.whole enc Tryd.prog ((World.doorLaid Tryd.prog 400 os).forCall (fun _ _ => 0) ⟨#[], #[.slice none 0 0], []⟩).memory Tryd.f12.params.toList Rows.scanSplitsSpec.vars false #[.slice none 0 0].toList 8 = some ([.nil], [], places) :=
    ⟨[], by kernel_rfl⟩
  refine returnsInHanded_of_row (C := Tryd.checked) (s := (OpenSpec.ofChange Rows.scanSplitsSpec)) rowOwn started (by kernel_rfl) Tryd.func12
    (witness_row_atRef (enc := enc) (C := Tryd.checked) false (World.doorLaid Tryd.prog 400 os) #[.slice none 0 0] rfl (by kernel_rfl) (by kernel_rfl) (by kernel_rfl)
      (OpenSpec.preRow_of_cond 8 hx (by kernel_rfl) (fun k hk => by cases hk) (by kernel_rfl) (laid_met os _))) ?_
  intro W base args ds gs before hval hW _ hcond _ hL _ _
  exact contract H enc W base args ds gs before hval hW hL

theorem said : Rows.ScanSplitsSaid :=
  OpenClaim.holds_of_cond 12 Tryd.f12 rfl rfl rfl rfl rfl rfl rfl ⟨rfl, rfl, rfl, rfl, rfl⟩ rfl rfl rfl rfl rfl (by kernel_rfl) Tryd.func12 (by kernel_rfl)
    (of_decide_eq_true (by kernel_rfl)) (by unfold Func.isWrapper; first | (rw [if_pos (by decide +kernel)]; kernel_rfl) | (rw [if_neg (by decide +kernel)]; exact ⟨rfl, rfl⟩))
    (fun os started H enc _ F => by rw [OpenClaim.pre_eq_preRow]; exact lifted os started H enc F)

/-- No parameter wants a stand-in; the program's own looks are on: what the card asks. -/
theorem plain (f : FuncId) (fn : Func) (hf : Tryd.pinned.checked.prog.funcNamed "jackfield/jackfieldlaw06.ScanSplits" = some f) (hfn : Tryd.pinned.checked.prog.funcs[f]? = some fn) :
    true = Tryd.pinned.checked.prog.looks [] ∧ ∀ (j : Nat) t, fn.params[j]? = some t → Tryd.pinned.checked.prog.wantsStandIn t = false := by
  obtain rfl : f = 12 := Option.some.inj ((show Tryd.prog.funcNamed "jackfield/jackfieldlaw06.ScanSplits" = some 12 by kernel_rfl).symm.trans hf) |>.symm
  obtain rfl : fn = Tryd.f12 := (Option.some.inj (Tryd.func12.symm.trans hfn)).symm
  refine ⟨by kernel_rfl, fun j t ht => ?_⟩
  rw [Tryd.params12] at ht
  have hm := Array.mem_of_getElem? ht
  have hall : (#[23].all fun t => !Tryd.prog.wantsStandIn t) = true := by kernel_rfl
  have := Array.all_eq_true'.1 hall t hm
  show Tryd.prog.wantsStandIn t = false
  simpa using this

/-- THE CARD. -/
theorem card : Rows.ScanSplitsCardSaid :=
  Claim7.holds_tied_plain_at .later [] _ _ _ _ said (fun _ h => by cases h) (by kernel_rfl) (fun _ h => by cases h) scanSplits_row_tie rfl ⟨rfl, rfl⟩ (by kernel_rfl) rfl plain (by kernel_rfl)
end Go.Proofs.YtpekagkhgegefaaDoor.CScanSplits
#print axioms Go.Proofs.YtpekagkhgegefaaDoor.CScanSplits.card
