/- LinkWires: a wire taken in any portions is the same bytes: for every input; its tied card. -/
import Derived.Test.YtipgimmgjdgdeaaDoorOpen
import Derived.Test.YtipgimmgjdgdeaaDoorOpn
import Derived.Test.YtipgimmgjdgdeaaDoorKm
set_option linter.unusedVariables false
set_option linter.unusedSimpArgs false
set_option linter.unnecessarySimpa false
namespace Go.Proofs.YtipgimmgjdgdeaaDoor.CLinkWires
open Go.RowKit Go.ChangeShapes Go.WideShapes Go.ChangeAt

set_option maxRecDepth 8000 in
/-- What the row lists. -/
theorem envs {W : World} (hL : laidMetH Tryd.prog Rows.linkWiresRow.laid W) : ∃ es : Er → Addr, LEnv W es := by
  rw [MakeChecks.laidMetH_plain _ _ _ (by kernel_rfl)] at hL
  obtain ⟨a0, s0, h0, c0, t0⟩ := laid_err (n := "jackfield/api.ErrRange") (g := 4) hL (by kernel_rfl) (by kernel_rfl)
  obtain ⟨a1, s1, h1, c1, t1⟩ := laid_err (n := "jackfield/api.ErrShort") (g := 5) hL.tail (by kernel_rfl) (by kernel_rfl)
  obtain ⟨a2, s2, h2, c2, t2⟩ := laid_err (n := "jackfield/api.ErrLong") (g := 6) hL.tail.tail (by kernel_rfl) (by kernel_rfl)
  obtain ⟨a3, s3, h3, c3, t3⟩ := laid_err (n := "jackfield/api.ErrTail") (g := 7) hL.tail.tail.tail (by kernel_rfl) (by kernel_rfl)
  obtain ⟨a4, s4, h4, c4, t4⟩ := laid_err (n := "jackfield/api.ErrBroken") (g := 8) hL.tail.tail.tail.tail (by kernel_rfl) (by kernel_rfl)
  obtain ⟨a5, s5, h5, c5, t5⟩ := laid_err (n := "jackfield/api.ErrFrame") (g := 1) hL.tail.tail.tail.tail.tail (by kernel_rfl) (by kernel_rfl)
  obtain ⟨a6, s6, h6, c6, t6⟩ := laid_err (n := "jackfield/api.ErrFull") (g := 0) hL.tail.tail.tail.tail.tail.tail (by kernel_rfl) (by kernel_rfl)
  obtain ⟨a7, s7, h7, c7, t7⟩ := laid_err (n := "jackfield/api.ErrGap") (g := 2) hL.tail.tail.tail.tail.tail.tail.tail (by kernel_rfl) (by kernel_rfl)
  obtain ⟨a8, s8, h8, c8, t8⟩ := laid_err (n := "jackfield/api.ErrState") (g := 3) hL.tail.tail.tail.tail.tail.tail.tail.tail (by kernel_rfl) (by kernel_rfl)
  have hr := laid_round hL.tail.tail.tail.tail.tail.tail.tail.tail.tail
  exact ⟨fun | .range => a0 | .short => a1 | .long => a2 | .tail => a3 | .broken => a4 | .frame => a5 | .full => a6 | .gap => a7 | .state => a8 | _ => a0, ⟨⟨⟨⟨h0, h2, h8⟩, h5, hr⟩, h6, h7⟩, ⟨⟨h0, h1, h2, h3, h8⟩, h5, hr⟩⟩⟩
theorem laid_met (os : Os) (args : Array Value) : laidMetH Tryd.prog Rows.linkWiresRow.laid ((World.doorLaid Tryd.prog 400 os).forCall (fun _ _ => 0) ⟨#[], args, []⟩).memory :=
  laidMetH_of_parts3 (fuel := 8) (laidMet_of_run' 8 (by kernel_rfl) (by kernel_rfl)) (by kernel_rfl) (by kernel_rfl)

set_option maxRecDepth 100000 in
theorem contract (H : Type) (enc : TypeId × Value → H) (W : World) (base : Nat) (args : Array Value) (ds gs : List (DataW H)) (before : List MemPlace)
    (hval : ∀ (j : Nat) t v, Tryd.f9.params[j]? = some t → args[j]? = some v → Value.okWide Tryd.prog W .any base t v)
    (hW : DataW.Whole enc Tryd.prog Tryd.f9.params.toList Rows.linkWiresSpec.vars false W args.toList ds gs before) (hL : laidMetH Tryd.prog Rows.linkWiresRow.laid W) :
    Calls Tryd.prog 9 args W fun e W' => ∃ v, e = .returned v ∧ Rows.linkWiresSpec.post enc Tryd.prog Tryd.f9 false true false false W args v W' := by
  obtain ⟨es, hE⟩ := envs hL
  have hW' := hW
  obtain ⟨p, q, hA0, hV, rfl, hfz, hnd⟩ := hW
  have hA : DataW.TrodAll enc Tryd.prog W 0 (fun _ => true) true Tryd.f9.params.toList args.toList ds p := hA0
  rw [Tryd.params9] at hA hval
  obtain ⟨v0, v1, d0, d1, p0, p1, rfl, rfl, rfl, h0, h1⟩ := trodAll_two hA
  obtain ⟨A2, n2, c2, rfl⟩ := okWide_slice Tryd.underlying22 (hval 0 22 v0 rfl rfl)
  obtain ⟨fuel2, hf2⟩ := h0
  obtain ⟨B2, m2, k2, fs, e2, hn2, hc2, hm2, hR2, hL2, _⟩ := open_frames hf2
  cases e2
  subst hn2
  obtain ⟨A3, n3, c3, rfl⟩ := okWide_slice Tryd.underlying23 (hval 1 23 v1 rfl rfl)
  obtain ⟨fuel3, hf3⟩ := h1
  obtain ⟨B3, m3, k3, zs, e3, hn3, hc3, hm3, hR3, _⟩ := open_ints hf3
  cases e3
  subst hn3
  refine (wires_walk es W A2 A3 c2 c3 fs zs hE hR2 (fun f hf => (hL2 f hf).1) (by unfold maxLen at hm2; omega) hR3 (by unfold maxLen at hm3; omega)).mono fun e W' ⟨he, hb⟩ => ?_
  subst he
  exact ⟨_, rfl, post_of_law rowLaidOut hW' rfl (by kernel_rfl) Tryd.underlying4 rfl rfl hb⟩

set_option maxRecDepth 100000 in
theorem lifted (os : Os) (started : os.Started) (H : Type) (enc : TypeId × Value → H) (F : Stop.Interp) :
    ReturnsInHanded {} Tryd.checked os 9 .any ((OpenSpec.ofChange Rows.linkWiresSpec).preRow enc Tryd.prog Tryd.f9 Rows.linkWiresRow.domain false Rows.linkWiresRow.laid)
      (((OpenSpec.ofChange Rows.linkWiresSpec).at F).post enc Tryd.prog Tryd.f9 false true false false) := by
  obtain ⟨places, hx⟩ : ∃ places, DataW.whole enc Tryd.prog ((World.doorLaid Tryd.prog 400 os).forCall (fun _ _ => 0) ⟨#[], #[.slice none 0 0, .slice none 0 0], []⟩).memory Tryd.f9.params.toList Rows.linkWiresSpec.vars false #[.slice none 0 0, .slice none 0 0].toList 8 = some ([.nil, .nil], [], places) :=
    ⟨[], by kernel_rfl⟩
  refine returnsInHanded_of_row (C := Tryd.checked) (s := (OpenSpec.ofChange Rows.linkWiresSpec)) rowOwn started (by kernel_rfl) Tryd.func9
    (witness_row_atRef (enc := enc) (C := Tryd.checked) false (World.doorLaid Tryd.prog 400 os) #[.slice none 0 0, .slice none 0 0] rfl (by kernel_rfl) (by kernel_rfl) (by kernel_rfl)
      (OpenSpec.preRow_of_cond 8 hx (by kernel_rfl) (fun k hk => by cases hk) (by kernel_rfl) (laid_met os _))) ?_
  intro W base args ds gs before hval hW _ hcond _ hL _ _
  exact contract H enc W base args ds gs before hval hW hL

theorem said : Rows.LinkWiresSaid :=
  OpenClaim.holds_of_cond 9 Tryd.f9 rfl rfl rfl rfl rfl rfl rfl ⟨rfl, rfl, rfl, rfl, rfl⟩ rfl rfl rfl rfl rfl (by kernel_rfl) Tryd.func9 (by kernel_rfl)
    (of_decide_eq_true (by kernel_rfl)) (by unfold Func.isWrapper; first | (rw [if_pos (by decide +kernel)]; kernel_rfl) | (rw [if_neg (by decide +kernel)]; exact ⟨rfl, rfl⟩))
    (fun os started H enc _ F => by rw [OpenClaim.pre_eq_preRow]; exact lifted os started H enc F)

/-- No parameter wants a stand-in; the program's own looks are on: what the card asks. -/
theorem plain (f : FuncId) (fn : Func) (hf : Tryd.pinned.checked.prog.funcNamed "jackfield/jackfieldlaw12.LinkWires" = some f) (hfn : Tryd.pinned.checked.prog.funcs[f]? = some fn) :
    true = Tryd.pinned.checked.prog.looks [] ∧ ∀ (j : Nat) t, fn.params[j]? = some t → Tryd.pinned.checked.prog.wantsStandIn t = false := by
  obtain rfl : f = 9 := Option.some.inj ((show Tryd.prog.funcNamed "jackfield/jackfieldlaw12.LinkWires" = some 9 by kernel_rfl).symm.trans hf) |>.symm
  obtain rfl : fn = Tryd.f9 := (Option.some.inj (Tryd.func9.symm.trans hfn)).symm
  refine ⟨by kernel_rfl, fun j t ht => ?_⟩
  rw [Tryd.params9] at ht
  have hm := Array.mem_of_getElem? ht
  have hall : (#[22, 23].all fun t => !Tryd.prog.wantsStandIn t) = true := by kernel_rfl
  have := Array.all_eq_true'.1 hall t hm
  show Tryd.prog.wantsStandIn t = false
  simpa using this

/-- THE CARD. -/
theorem card : Rows.LinkWiresCardSaid :=
  Claim7.holds_tied_plain_at .later [] _ _ _ _ said (fun _ h => by cases h) (by kernel_rfl) (fun _ h => by cases h) linkWires_row_tie rfl ⟨rfl, rfl⟩ (by kernel_rfl) rfl plain (by kernel_rfl)
end Go.Proofs.YtipgimmgjdgdeaaDoor.CLinkWires
#print axioms Go.Proofs.YtipgimmgjdgdeaaDoor.CLinkWires.card
