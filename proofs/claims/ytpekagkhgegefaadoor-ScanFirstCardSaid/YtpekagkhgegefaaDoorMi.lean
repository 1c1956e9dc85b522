/- Walks of package jackfieldnum: Num, in the seat of law05.-/
import Derived.Test.YtpekagkhgegefaaDoorVg
set_option linter.unusedVariables false
set_option linter.unusedSimpArgs false
set_option linter.unnecessarySimpa false
namespace Go.Proofs.YtpekagkhgegefaaDoor
open Go.RowKit
attribute [local go_sem] run_store_flt cellV errV

/-- Where the variables lie; the errors in their order. -/
def erG : Er → Nat
  | .range => 2 | .short => 3 | .long => 4 | .tail => 5 | .broken => 1 | .power => 6
  | .frame => 0 | .full => 7 | .gap => 8 | .name => 9 | .taken => 10 | .none => 11
  | .owner => 12 | .proof => 13 | .window => 14 | .stream => 15 | .state => 16 | .busy => 17
def erAll : List Er := [.range, .short, .long, .tail, .broken, .power, .frame, .full, .gap, .name, .taken, .none, .owner, .proof, .window, .stream, .state, .busy]
def erIx (e : Er) : Nat := erAll.idxOf e
theorem erIx_lt (e : Er) : erIx e < 18 := by cases e <;> decide
theorem erIx_at (e : Er) : erAll[erIx e]? = some e := by cases e <;> rfl
theorem erAll_ix : ∀ (k : Nat) (h : k < erAll.length), erIx erAll[k] = k := by decide
/-- All errors of package api, each at its own place. -/
structure E18 (B : Nat) (w : World) (es : Er → Addr) : Prop where
  at_ : ∀ e, ErrAt B w (erG e) (es e)
  inj : ∀ e e', es e = es e' → e = e'
theorem E18.below {B : Nat} {w w' : World} {es : Er → Addr} (h : E18 B w es) (hb : Below B w w') : E18 B w' es := ⟨fun e => (h.at_ e).below hb, h.inj⟩
theorem E18.more {B B' : Nat} {w : World} {es : Er → Addr} (h : E18 B w es) (hb : B ≤ B') : E18 B' w es := ⟨fun e => (h.at_ e).more hb, h.inj⟩
theorem E18.step {w w' : World} {es : Er → Addr} (h : E18 w.heap.size w es) (hb : Below w.heap.size w w') : E18 w'.heap.size w' es := (h.below hb).more hb.size

theorem run_err_other (es : Er → Addr) (B : Nat) (w : World) (h : E18 B w es) (e e' : Er) (hne : e ≠ e') : (binOp .eql 30 (.iface 147 (.pointer (some (es e)))) (.iface 147 (.pointer (some (es e'))))).run Tryd.prog w = .ok (.bool false) w := by
  obtain ⟨i, hi, hc⟩ := Option.map_eq_some_iff.1 infoErr
  obtain ⟨j, hj, hs⟩ := Option.map_eq_some_iff.1 infoErrS
  obtain ⟨c1, t1, h1⟩ := (h.at_ e).obj
  obtain ⟨c2, t2, h2⟩ := (h.at_ e').obj
  exact run_eql_iface_ptr_other w Tryd.underlying30 Tryd.underlying147 hi hc hj (by rw [hs]; decide) (fun hh => hne (h.inj _ _ hh)) h1 h2

theorem num_nil (w : World) : Calls Tryd.prog 29 #[.nilIface] w (fun e w' => e = .returned (.int .i64 0) ∧ w = w') := by
  go_enter Tryd.func29, Tryd.ntmps29
  go_wp2
  go_ret
  exact ⟨rfl, rfl⟩
set_option maxRecDepth 4000 in
set_option maxHeartbeats 1000000 in
theorem num_err (es : Er → Addr) (w : World) (er : Er) (hE : E18 w.heap.size w es) : Calls Tryd.prog 29 #[errV (es er)] w (fun e w' => e = .returned (.int .i64 ((erIx er + 1 : Nat) : Int)) ∧ Below w.heap.size w w') := by
  unfold errV
  have HE := Lib.hid hE
  have c0 := (hE.at_ .range).cell
  have c1 := (hE.at_ .short).cell
  have c2 := (hE.at_ .long).cell
  have c3 := (hE.at_ .tail).cell
  have c4 := (hE.at_ .broken).cell
  have c5 := (hE.at_ .power).cell
  have c6 := (hE.at_ .frame).cell
  have c7 := (hE.at_ .full).cell
  have c8 := (hE.at_ .gap).cell
  have c9 := (hE.at_ .name).cell
  have c10 := (hE.at_ .taken).cell
  have c11 := (hE.at_ .none).cell
  have c12 := (hE.at_ .owner).cell
  have c13 := (hE.at_ .proof).cell
  have c14 := (hE.at_ .window).cell
  have c15 := (hE.at_ .stream).cell
  have c16 := (hE.at_ .state).cell
  have c17 := (hE.at_ .busy).cell
  simp only [erG] at c0 c1 c2 c3 c4 c5 c6 c7 c8 c9 c10 c11 c12 c13 c14 c15 c16 c17
  clear hE
  go_enter Tryd.func29, Tryd.ntmps29
  go_wp2_with fail
  have hal : Below w.heap.size w (w.alloc (.cells #[.iface 147 (.pointer (some (es .range))), .iface 147 (.pointer (some (es .short))), .iface 147 (.pointer (some (es .long))), .iface 147 (.pointer (some (es .tail))), .iface 147 (.pointer (some (es .broken))), .iface 147 (.pointer (some (es .power))), .iface 147 (.pointer (some (es .frame))), .iface 147 (.pointer (some (es .full))), .iface 147 (.pointer (some (es .gap))), .iface 147 (.pointer (some (es .name))), .iface 147 (.pointer (some (es .taken))), .iface 147 (.pointer (some (es .none))), .iface 147 (.pointer (some (es .owner))), .iface 147 (.pointer (some (es .proof))), .iface 147 (.pointer (some (es .window))), .iface 147 (.pointer (some (es .stream))), .iface 147 (.pointer (some (es .state))), .iface 147 (.pointer (some (es .busy)))] 30)) := (Below.refl _ _).alloc (Nat.le_refl _) _
  have hrd : RdC (· = w.heap.size) (w.alloc (.cells #[.iface 147 (.pointer (some (es .range))), .iface 147 (.pointer (some (es .short))), .iface 147 (.pointer (some (es .long))), .iface 147 (.pointer (some (es .tail))), .iface 147 (.pointer (some (es .broken))), .iface 147 (.pointer (some (es .power))), .iface 147 (.pointer (some (es .frame))), .iface 147 (.pointer (some (es .full))), .iface 147 (.pointer (some (es .gap))), .iface 147 (.pointer (some (es .name))), .iface 147 (.pointer (some (es .taken))), .iface 147 (.pointer (some (es .none))), .iface 147 (.pointer (some (es .owner))), .iface 147 (.pointer (some (es .proof))), .iface 147 (.pointer (some (es .window))), .iface 147 (.pointer (some (es .stream))), .iface 147 (.pointer (some (es .state))), .iface 147 (.pointer (some (es .busy)))] 30)) (some ⟨w.heap.size, 0, none⟩) (erAll.map fun e => errV (es e)) := RdC.new w #[.iface 147 (.pointer (some (es .range))), .iface 147 (.pointer (some (es .short))), .iface 147 (.pointer (some (es .long))), .iface 147 (.pointer (some (es .tail))), .iface 147 (.pointer (some (es .broken))), .iface 147 (.pointer (some (es .power))), .iface 147 (.pointer (some (es .frame))), .iface 147 (.pointer (some (es .full))), .iface 147 (.pointer (some (es .gap))), .iface 147 (.pointer (some (es .name))), .iface 147 (.pointer (some (es .taken))), .iface 147 (.pointer (some (es .none))), .iface 147 (.pointer (some (es .owner))), .iface 147 (.pointer (some (es .proof))), .iface 147 (.pointer (some (es .window))), .iface 147 (.pointer (some (es .stream))), .iface 147 (.pointer (some (es .state))), .iface 147 (.pointer (some (es .busy)))] 30
  have HE1 := Lib.hid (HE.out.step hal)
  have HB1 := Lib.hid hal
  have HR := Lib.hid hrd
  clear hal hrd c0 c1 c2 c3 c4 c5 c6 c7 c8 c9 c10 c11 c12 c13 c14 c15 c16 c17
  generalize w.alloc (.cells #[.iface 147 (.pointer (some (es .range))), .iface 147 (.pointer (some (es .short))), .iface 147 (.pointer (some (es .long))), .iface 147 (.pointer (some (es .tail))), .iface 147 (.pointer (some (es .broken))), .iface 147 (.pointer (some (es .power))), .iface 147 (.pointer (some (es .frame))), .iface 147 (.pointer (some (es .full))), .iface 147 (.pointer (some (es .gap))), .iface 147 (.pointer (some (es .name))), .iface 147 (.pointer (some (es .taken))), .iface 147 (.pointer (some (es .none))), .iface 147 (.pointer (some (es .owner))), .iface 147 (.pointer (some (es .proof))), .iface 147 (.pointer (some (es .window))), .iface 147 (.pointer (some (es .stream))), .iface 147 (.pointer (some (es .state))), .iface 147 (.pointer (some (es .busy)))] 30) = W1 at *
  generalize (⟨w.heap.size, 0, none⟩ : Addr) = ad at *
  go_loopw [29] (fun i wr => ∃ k : Nat, k ≤ erIx er ∧ i = .int .i64 k ∧ wr = W1) (fun i _ => 20 - (intOf i).toNat)
  case atStart => exact ⟨0, Nat.zero_le _, rfl, rfl⟩
  case round =>
    obtain ⟨k, hk1, rfl, rfl⟩ := hrel
    have hix := erIx_lt er
    have hk18 : k < erAll.length := Nat.lt_of_le_of_lt hk1 hix
    obtain ⟨ad', e', _, hc⟩ := HR.out (by simp [erAll])
    cases e'
    have g := hc k (errV (es erAll[k])) (by simp [hk18])
    unfold errV at g
    have i0 : (0 : Int) ≤ (k : Int) := by omega
    have i1 : (k : Int) < 18 := by omega
    have i2 : IntKind.i64.wrap ((k : Int) + 1) = (k : Int) + 1 := IntWalk.i64_in _ (by omega)
    have hki := erAll_ix k hk18
    generalize erAll[k] = ek at *
    by_cases heq : k = erIx er
    · have h2 : ek = er := by
        have h3 := erIx_at ek
        rw [hki, heq, erIx_at er] at h3
        exact (Option.some.inj h3).symm
      subst h2
      have hs := run_err_same (es ek) wr
      clear hki hc hk1 hix
      have HQ := Lib.hid heq
      clear heq
      go_wp2
      go_ret
      exact ⟨by rw [← HQ.out]; rfl, HB1.out⟩
    · have hne : er ≠ ek := fun h => heq (by rw [h]; exact hki.symm)
      have hs := run_err_other es _ wr HE1.out er ek hne
      clear hki hc
      go_wp2_with fail
      go_roundw
      case rel => exact ⟨k + 1, by omega, by go_num, trivial⟩
      case measure => simp [intOf]; omega
/-- The number of what a call answered. -/
def codeV (es : Er → Addr) : Option Er → Value
  | .none => .nilIface
  | .some e => errV (es e)
def code : Option Er → Nat
  | .none => 0
  | .some e => erIx e + 1
theorem num_any (es : Er → Addr) (w : World) (o : Option Er) (hE : E18 w.heap.size w es) : Calls Tryd.prog 29 #[codeV es o] w (fun e w' => e = .returned (.int .i64 ((code o : Nat) : Int)) ∧ Below w.heap.size w w') := by
  cases o with
  | none => exact (num_nil w).mono fun e w' ⟨h1, h2⟩ => ⟨h1, h2 ▸ Below.refl _ _⟩
  | some er => exact num_err es w er hE
end Go.Proofs.YtpekagkhgegefaaDoor
