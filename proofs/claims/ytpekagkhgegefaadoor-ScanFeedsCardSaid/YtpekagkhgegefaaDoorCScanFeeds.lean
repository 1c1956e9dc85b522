/- ScanFeeds: pieces of any bytes, one behind the other; what is handed in stays: for every input; its tied card. -/
import Derived.Test.YtpekagkhgegefaaDoorOpen
import Derived.Test.YtpekagkhgegefaaDoorRowh
import Derived.Test.YtpekagkhgegefaaDoorHd
import Derived.Test.YtpekagkhgegefaaDoorSn
import Derived.Test.YtpekagkhgegefaaDoorMv
set_option linter.unusedVariables false
set_option linter.unusedSimpArgs false
set_option linter.unnecessarySimpa false
namespace Go.Proofs.YtpekagkhgegefaaDoor
open Go.RowKit Go.ChangeShapes Go.WideShapes Go.ChangeAt

section
variable {H : Type} {enc : TypeId × Value → H} {P : Program} {W : World}
theorem trod_slice_one {t e : TypeId} {fuel : Nat} {cs : List Value} {x : DataW H × List MemPlace} (ht : P.underlying t = some (.slice e)) (h : DataW.trod enc P W 0 (fun _ => true) true fuel t cs = some x) : ∃ v, cs = [v] := by
  cases fuel with
  | zero => simp [DataW.trod] at h
  | succ n =>
    unfold DataW.trod at h
    rw [ht] at h
    split at h <;> simp_all
theorem rows_flat (chs : List (List Value)) (xs : List (Option Addr × Nat × Bs)) (hl : chs.length = xs.length) (h : ∀ i (h1 : i < chs.length) (h2 : i < xs.length), chs[i] = [.slice xs[i].1 xs[i].2.2.length xs[i].2.1]) : chs.flatten = xs.map fun p => .slice p.1 p.2.2.length p.2.1 := by
  have e : chs = xs.map fun p => [.slice p.1 p.2.2.length p.2.1] := by
    apply List.ext_getElem
    · simp [hl]
    · intro i hi1 hi2
      rw [h i hi1 (by omega)]
      simp
  rw [e]
  clear e h hl
  induction xs with
  | nil => rfl
  | cons x xs ih => simpa using ih
theorem open_rows {t e b : TypeId} {fuel : Nat} {v : Value} {x : DataW H × List MemPlace} (ht : P.underlying t = some (.slice e)) (he : P.underlying e = some (.slice b)) (hb : P.underlying b = some (.int .u8)) (hc : P.cellsOf e = 1) (hc2 : P.cellsOf b = 1)
    (h : DataW.trod enc P W 0 (fun _ => true) true fuel t [v] = some x) :
    ∃ (A : Option Addr) (n c : Nat) (vs : List Value) (ps : List Bs), v = .slice A n c ∧ n = ps.length ∧ n ≤ c ∧ c ≤ maxLen ∧ RdC (· < W.heap.size) W A vs ∧ RowsOf (· < W.heap.size) W vs ps ∧ ∀ p ∈ ps, p.length ≤ maxLen := by
  obtain ⟨A, n, c, chs, xs, rfl, l1, l2, h1, h2, hR, hrep, _⟩ := open_slice ht hc (by omega) (fun cs (p : Option Addr × Nat × Bs) => cs = [.slice p.1 p.2.2.length p.2.1] ∧ RdC (· < W.heap.size) W p.1 (bvs p.2.2) ∧ p.2.2.length ≤ p.2.1 ∧ p.2.1 ≤ maxLen) (fun _ => 1) (fun fuel cs y hy => by
    obtain ⟨v, rfl⟩ := trod_slice_one he hy
    obtain ⟨A, n, c, b, rfl, rfl, k1, k2, k3, _⟩ := open_bytes he hb hc2 hy
    exact ⟨(A, c, b), ⟨rfl, k3, k1, k2⟩, bulk_pos _⟩) h
  refine ⟨A, n, c, chs.flatten, xs.map (·.2.2), rfl, by simp [l2], h1, h2, hR, ?_, ?_⟩
  · rw [rows_flat chs xs (by omega) (fun i h1 h2 => (hrep i h1 h2).1.1)]
    refine ⟨by simp, fun i hi => ?_⟩
    have hi2 : i < xs.length := by simpa using hi
    have hr := (hrep i (by omega) hi2).1
    refine ⟨xs[i].1, xs[i].2.1, by simp [hi2], by simpa using hr.2.1, by simpa using hr.2.2.1⟩
  · intro p hp
    obtain ⟨q, hq, rfl⟩ := List.mem_map.1 hp
    obtain ⟨i, hi, rfl⟩ := List.getElem_of_mem hq
    have hr := (hrep i (by omega) hi).1
    exact Nat.le_trans hr.2.2.1 hr.2.2.2
end
end Go.Proofs.YtpekagkhgegefaaDoor

namespace Go.Proofs.YtpekagkhgegefaaDoor.CScanFeeds
open Go.RowKit Go.ChangeShapes Go.WideShapes Go.ChangeAt

set_option maxRecDepth 8000 in
/-- What the row lists. -/
theorem envs {W : World} (hL : laidMetH Tryd.prog Rows.scanFeedsRow.laid W) : ∃ es : Er → Addr, GEnv W es ∧ E18 W.heap.size W es ∧ ErrAt W.heap.size W 1 (es .broken) := by
  rw [MakeChecks.laidMetH_plain _ _ _ (by kernel_rfl)] at hL
  obtain ⟨a0, s0, h0, c0, t0⟩ := laid_err (n := "jackfield/api.ErrRange") (g := 2) hL (by kernel_rfl) (by kernel_rfl)
  obtain ⟨a1, s1, h1, c1, t1⟩ := laid_err (n := "jackfield/api.ErrShort") (g := 3) hL.tail (by kernel_rfl) (by kernel_rfl)
  obtain ⟨a2, s2, h2, c2, t2⟩ := laid_err (n := "jackfield/api.ErrLong") (g := 4) hL.tail.tail (by kernel_rfl) (by kernel_rfl)
  obtain ⟨a3, s3, h3, c3, t3⟩ := laid_err (n := "jackfield/api.ErrTail") (g := 5) hL.tail.tail.tail (by kernel_rfl) (by kernel_rfl)
  obtain ⟨a4, s4, h4, c4, t4⟩ := laid_err (n := "jackfield/api.ErrBroken") (g := 1) hL.tail.tail.tail.tail (by kernel_rfl) (by kernel_rfl)
  obtain ⟨a5, s5, h5, c5, t5⟩ := laid_err (n := "jackfield/api.ErrPower") (g := 6) hL.tail.tail.tail.tail.tail (by kernel_rfl) (by kernel_rfl)
  obtain ⟨a6, s6, h6, c6, t6⟩ := laid_err (n := "jackfield/api.ErrFrame") (g := 0) hL.tail.tail.tail.tail.tail.tail (by kernel_rfl) (by kernel_rfl)
  obtain ⟨a7, s7, h7, c7, t7⟩ := laid_err (n := "jackfield/api.ErrFull") (g := 7) hL.tail.tail.tail.tail.tail.tail.tail (by kernel_rfl) (by kernel_rfl)
  obtain ⟨a8, s8, h8, c8, t8⟩ := laid_err (n := "jackfield/api.ErrGap") (g := 8) hL.tail.tail.tail.tail.tail.tail.tail.tail (by kernel_rfl) (by kernel_rfl)
  obtain ⟨a9, s9, h9, c9, t9⟩ := laid_err (n := "jackfield/api.ErrName") (g := 9) hL.tail.tail.tail.tail.tail.tail.tail.tail.tail (by kernel_rfl) (by kernel_rfl)
  obtain ⟨a10, s10, h10, c10, t10⟩ := laid_err (n := "jackfield/api.ErrTaken") (g := 10) hL.tail.tail.tail.tail.tail.tail.tail.tail.tail.tail (by kernel_rfl) (by kernel_rfl)
  obtain ⟨a11, s11, h11, c11, t11⟩ := laid_err (n := "jackfield/api.ErrNone") (g := 11) hL.tail.tail.tail.tail.tail.tail.tail.tail.tail.tail.tail (by kernel_rfl) (by kernel_rfl)
  obtain ⟨a12, s12, h12, c12, t12⟩ := laid_err (n := "jackfield/api.ErrOwner") (g := 12) hL.tail.tail.tail.tail.tail.tail.tail.tail.tail.tail.tail.tail (by kernel_rfl) (by kernel_rfl)
  obtain ⟨a13, s13, h13, c13, t13⟩ := laid_err (n := "jackfield/api.ErrProof") (g := 13) hL.tail.tail.tail.tail.tail.tail.tail.tail.tail.tail.tail.tail.tail (by kernel_rfl) (by kernel_rfl)
  obtain ⟨a14, s14, h14, c14, t14⟩ := laid_err (n := "jackfield/api.ErrWindow") (g := 14) hL.tail.tail.tail.tail.tail.tail.tail.tail.tail.tail.tail.tail.tail.tail (by kernel_rfl) (by kernel_rfl)
  obtain ⟨a15, s15, h15, c15, t15⟩ := laid_err (n := "jackfield/api.ErrStream") (g := 15) hL.tail.tail.tail.tail.tail.tail.tail.tail.tail.tail.tail.tail.tail.tail.tail (by kernel_rfl) (by kernel_rfl)
  obtain ⟨a16, s16, h16, c16, t16⟩ := laid_err (n := "jackfield/api.ErrState") (g := 16) hL.tail.tail.tail.tail.tail.tail.tail.tail.tail.tail.tail.tail.tail.tail.tail.tail (by kernel_rfl) (by kernel_rfl)
  obtain ⟨a17, s17, h17, c17, t17⟩ := laid_err (n := "jackfield/api.ErrBusy") (g := 17) hL.tail.tail.tail.tail.tail.tail.tail.tail.tail.tail.tail.tail.tail.tail.tail.tail.tail (by kernel_rfl) (by kernel_rfl)
  have hr := laid_round hL.tail.tail.tail.tail.tail.tail.tail.tail.tail.tail.tail.tail.tail.tail.tail.tail.tail.tail
  exact ⟨fun | .range => a0 | .short => a1 | .long => a2 | .tail => a3 | .broken => a4 | .power => a5 | .frame => a6 | .full => a7 | .gap => a8 | .name => a9 | .taken => a10 | .none => a11 | .owner => a12 | .proof => a13 | .window => a14 | .stream => a15 | .state => a16 | .busy => a17, ⟨⟨h0, h1, h2, h3, h16⟩, h6, hr⟩, mk18 (fun e => match e with | .range => h0 | .short => h1 | .long => h2 | .tail => h3 | .broken => h4 | .power => h5 | .frame => h6 | .full => h7 | .gap => h8 | .name => h9 | .taken => h10 | .none => h11 | .owner => h12 | .proof => h13 | .window => h14 | .stream => h15 | .state => h16 | .busy => h17) (fun e => match e with | .range => ⟨s0, c0, t0⟩ | .short => ⟨s1, c1, t1⟩ | .long => ⟨s2, c2, t2⟩ | .tail => ⟨s3, c3, t3⟩ | .broken => ⟨s4, c4, t4⟩ | .power => ⟨s5, c5, t5⟩ | .frame => ⟨s6, c6, t6⟩ | .full => ⟨s7, c7, t7⟩ | .gap => ⟨s8, c8, t8⟩ | .name => ⟨s9, c9, t9⟩ | .taken => ⟨s10, c10, t10⟩ | .none => ⟨s11, c11, t11⟩ | .owner => ⟨s12, c12, t12⟩ | .proof => ⟨s13, c13, t13⟩ | .window => ⟨s14, c14, t14⟩ | .stream => ⟨s15, c15, t15⟩ | .state => ⟨s16, c16, t16⟩ | .busy => ⟨s17, c17, t17⟩), h4⟩
theorem laid_met (os : Os) (args : Array Value) : laidMetH Tryd.prog Rows.scanFeedsRow.laid ((World.doorLaid Tryd.prog 400 os).forCall (fun _ _ => 0) ⟨#[], args, []⟩).memory :=
  laidMetH_of_parts3 (fuel := 8) (laidMet_of_run' 8 (by kernel_rfl) (by kernel_rfl)) (by kernel_rfl) (by kernel_rfl)

set_option maxRecDepth 100000 in
theorem contract (H : Type) (enc : TypeId × Value → H) (W : World) (base : Nat) (args : Array Value) (ds gs : List (DataW H)) (before : List MemPlace)
    (hval : ∀ (j : Nat) t v, Tryd.f5.params[j]? = some t → args[j]? = some v → Value.okWide Tryd.prog W .any base t v)
    (hW : DataW.Whole enc Tryd.prog Tryd.f5.params.toList Rows.scanFeedsSpec.vars false W args.toList ds gs before) (hL : laidMetH Tryd.prog Rows.scanFeedsRow.laid W) :
    Calls Tryd.prog 5 args W fun e W' => ∃ v, e = .returned v ∧ Rows.scanFeedsSpec.post enc Tryd.prog Tryd.f5 false true false false W args v W' := by
  obtain ⟨es, hE, hE18, hBk⟩ := envs hL
  have hW' := hW
  obtain ⟨p, q, hA0, hV, rfl, hfz, hnd⟩ := hW
  have hA : DataW.TrodAll enc Tryd.prog W 0 (fun _ => true) true Tryd.f5.params.toList args.toList ds p := hA0
  rw [Tryd.params5] at hA hval
  obtain ⟨v0, d0, rfl, rfl, h0⟩ := trodAll_one hA
  obtain ⟨A3, n3, c3, rfl⟩ := okWide_slice Tryd.underlying38 (hval 0 38 v0 rfl rfl)
  obtain ⟨fuel3, hf3⟩ := h0
  obtain ⟨B3, m3, k3, vs, ps, e3, hn3, hc3, hm3, hR3, hV3, hP3⟩ := open_rows Tryd.underlying38 Tryd.underlying23 Tryd.underlying5 (by kernel_rfl) (by kernel_rfl) hf3
  cases e3
  subst hn3
  refine (feeds_walk es W A3 c3 vs ps hE hE18 hBk hR3 hV3 (by unfold maxLen at hm3; omega) (fun p hp => by have := hP3 p hp; unfold maxLen at this; omega)).mono fun e W' ⟨he, hb⟩ => ?_
  subst he
  exact ⟨_, rfl, post_of_law rowLaidOut hW' rfl (by kernel_rfl) Tryd.underlying4 rfl rfl hb⟩

set_option maxRecDepth 100000 in
theorem lifted (os : Os) (started : os.Started) (H : Type) (enc : TypeId × Value → H) (F : Stop.Interp) :
    ReturnsInHanded {} Tryd.checked os 5 .any ((OpenSpec.ofChange Rows.scanFeedsSpec).preRow enc Tryd.prog Tryd.f5 Rows.scanFeedsRow.domain false Rows.scanFeedsRow.laid)
      (((OpenSpec.ofChange Rows.scanFeedsSpec).at F).post enc Tryd.prog Tryd.f5 false true false false) := by
  obtain ⟨places, hx⟩ : ∃ places, DataW.whole enc Tryd.prog ((World.doorLaid Tryd.prog 400 os).forCall (fun _ _ => 0) ⟨#[], #[.slice none 0 0], []⟩).memory Tryd.f5.params.toList Rows.scanFeedsSpec.vars false #[.slice none 0 0].toList 8 = some ([.nil], [], places) :=
    ⟨[], by kernel_rfl⟩
  refine returnsInHanded_of_row (C := Tryd.checked) (s := (OpenSpec.ofChange Rows.scanFeedsSpec)) rowOwn started (by kernel_rfl) Tryd.func5
    (witness_row_atRef (enc := enc) (C := Tryd.checked) false (World.doorLaid Tryd.prog 400 os) #[.slice none 0 0] rfl (by kernel_rfl) (by kernel_rfl) (by kernel_rfl)
      (OpenSpec.preRow_of_cond 8 hx (by kernel_rfl) (fun k hk => by cases hk) (by kernel_rfl) (laid_met os _))) ?_
  intro W base args ds gs before hval hW _ hcond _ hL _ _
  exact contract H enc W base args ds gs before hval hW hL

theorem said : Rows.ScanFeedsSaid :=
  OpenClaim.holds_of_cond 5 Tryd.f5 rfl rfl rfl rfl rfl rfl rfl ⟨rfl, rfl, rfl, rfl, rfl⟩ rfl rfl rfl rfl rfl (by kernel_rfl) Tryd.func5 (by kernel_rfl)
    (of_decide_eq_true (by kernel_rfl)) (by unfold Func.isWrapper; first | (rw [if_pos (by decide +kernel)]; kernel_rfl) | (rw [if_neg (by decide +kernel)]; exact ⟨rfl, rfl⟩))
    (fun os started H enc _ F => by rw [OpenClaim.pre_eq_preRow]; exact lifted os started H enc F)

/-- No parameter wants a stand-in; the program's own looks are on: what the card asks. -/
theorem plain (f : FuncId) (fn : Func) (hf : Tryd.pinned.checked.prog.funcNamed "jackfield/jackfieldlaw06.ScanFeeds" = some f) (hfn : Tryd.pinned.checked.prog.funcs[f]? = some fn) :
    true = Tryd.pinned.checked.prog.looks [] ∧ ∀ (j : Nat) t, fn.params[j]? = some t → Tryd.pinned.checked.prog.wantsStandIn t = false := by
  obtain rfl : f = 5 := Option.some.inj ((show Tryd.prog.funcNamed "jackfield/jackfieldlaw06.ScanFeeds" = some 5 by kernel_rfl).symm.trans hf) |>.symm
  obtain rfl : fn = Tryd.f5 := (Option.some.inj (Tryd.func5.symm.trans hfn)).symm
  refine ⟨by kernel_rfl, fun j t ht => ?_⟩
  rw [Tryd.params5] at ht
  have hm := Array.mem_of_getElem? ht
  have hall : (#[38].all fun t => !Tryd.prog.wantsStandIn t) = true := by kernel_rfl
  have := Array.all_eq_true'.1 hall t hm
  show Tryd.prog.wantsStandIn t = false
  simpa using this

/-- THE CARD. -/
theorem card : Rows.ScanFeedsCardSaid :=
  Claim7.holds_tied_plain_at .later [] _ _ _ _ said (fun _ h => by cases h) (by kernel_rfl) (fun _ h => by cases h) scanFeeds_row_tie rfl ⟨rfl, rfl⟩ (by kernel_rfl) rfl plain (by kernel_rfl)
end Go.Proofs.YtpekagkhgegefaaDoor.CScanFeeds
#print axioms Go.Proofs.YtpekagkhgegefaaDoor.CScanFeeds.card
