/- Walks of package proof, first part: what a guard asks. -/
import Derived.Test.YtnnokbipcenbgaaDoorPs
import Derived.Test.YtnnokbipcenbgaaDoorFy
import Derived.Test.YtnnokbipcenbgaaDoorHk
import Derived.Test.YtnnokbipcenbgaaDoorHa
import Derived.Recover
set_option linter.unusedVariables false
set_option linter.unusedSimpArgs false
set_option linter.unnecessarySimpa false
namespace Go.Proofs.YtnnokbipcenbgaaDoor
open Go.RowKit

/-- What a call of a guard gives up with. -/
def wrongP (a : Addr) : PanicEntry := { v := .iface 78 (.agg #[errV a]), recovered := false }
def GuardP (w : World) (ok : Bool) (a : Addr) (e : Ending) (w' : World) : Prop := (if ok = true then e = .returned (.tuple #[]) else e = .panicked [wrongP a]) ∧ Below w.heap.size w w'
def YesP (w : World) (e : Ending) (w' : World) : Prop := e = .returned (.tuple #[]) ∧ Below w.heap.size w w'
def NoP (w : World) (a : Addr) (e : Ending) (w' : World) : Prop := e = .panicked [wrongP a] ∧ Below w.heap.size w w'
theorem GuardP.yes {w : World} {a : Addr} {e : Ending} {w' : World} (h : YesP w e w') : GuardP w true a e w' := ⟨h.1, h.2⟩
theorem GuardP.no {w : World} {a : Addr} {e : Ending} {w' : World} (h : NoP w a e w') : GuardP w false a e w' := ⟨h.1, h.2⟩
theorem below_box (w : World) (o : Obj) : Below w.heap.size w (w.alloc o) := (Below.refl _ _).alloc (Nat.le_refl _) _
set_option maxRecDepth 8000 in
theorem need_yes (w : World) (a : Addr) : Calls Tryd.prog 30 #[.agg #[], .bool true, errV a] w (YesP w) := by
  have HB := Lib.hid (below_box w (Obj.cells #[] 52))
  unfold errV
  go_enter Tryd.func30, Tryd.ntmps30
  go_wp2_with fail
  go_end0
  exact ⟨rfl, HB.out⟩
set_option maxRecDepth 8000 in
theorem need_no (w : World) (a : Addr) : Calls Tryd.prog 30 #[.agg #[], .bool false, errV a] w (NoP w a) := by
  have HB := Lib.hid (below_box w (Obj.cells #[] 52))
  unfold errV
  go_enter Tryd.func30, Tryd.ntmps30
  go_wp2_with fail
  exact ⟨rfl, rfl, HB.out⟩
set_option maxRecDepth 8000 in
theorem secret_any (es : Er → Addr) (w : World) (A : Option Addr) (c : Nat) (b : Bs) (hE : ErrAt w.heap.size w 1 (es .range)) :
    Calls Tryd.prog 24 #[.agg #[], .slice A b.length c] w (GuardP w (secretOk b) (es .range)) := by
  have hc := hE.cell
  have hg := hE.g_lt
  have HE := Lib.hid hE
  have HB := Lib.hid (below_box w (Obj.cells #[] 52))
  clear hE
  by_cases h1 : 1 ≤ b.length
  · have k1 : (1 : Int) ≤ (b.length : Int) := by omega
    by_cases h2 : b.length ≤ 64
    · have k2 : (b.length : Int) ≤ 64 := by omega
      have hs : secretOk b = true := by unfold secretOk; exact decide_eq_true ⟨h1, h2⟩
      rw [hs]
      clear hs
      go_enter Tryd.func24, Tryd.ntmps24
      go_wp2_with fail
      refine (need_yes _ (es .range)).mono ?_
      rintro e w1 ⟨rfl, hb1⟩
      have HB1 := Lib.hid (below_on HB.out hb1)
      clear hb1
      go_wp2_with fail
      go_end0
      exact GuardP.yes ⟨rfl, HB1.out⟩
    · have k2 : ¬ (b.length : Int) ≤ 64 := by omega
      have hs : secretOk b = false := by unfold secretOk; exact decide_eq_false fun h => h2 h.2
      rw [hs]
      clear hs
      go_enter Tryd.func24, Tryd.ntmps24
      go_wp2_with fail
      refine (need_no _ (es .range)).mono ?_
      rintro e w1 ⟨rfl, hb1⟩
      exact ⟨rfl, GuardP.no ⟨rfl, below_on HB.out hb1⟩⟩
  · have k1 : ¬ (1 : Int) ≤ (b.length : Int) := by omega
    have hs : secretOk b = false := by unfold secretOk; exact decide_eq_false fun h => h1 h.1
    rw [hs]
    clear hs
    go_enter Tryd.func24, Tryd.ntmps24
    go_wp2_with fail
    refine (need_no _ (es .range)).mono ?_
    rintro e w1 ⟨rfl, hb1⟩
    exact ⟨rfl, GuardP.no ⟨rfl, below_on HB.out hb1⟩⟩
set_option maxRecDepth 8000 in
theorem who_any (es : Er → Addr) (w : World) (s : ByteArray) (hl : s.size = s.data.toList.length) (hE : ErrAt w.heap.size w 1 (es .range)) :
    Calls Tryd.prog 25 #[.agg #[], .string s] w (GuardP w (whoOk s.data.toList) (es .range)) := by
  have hc := hE.cell
  have hg := hE.g_lt
  have HE := Lib.hid hE
  have HB := Lib.hid (below_box w (Obj.cells #[] 52))
  clear hE
  by_cases h1 : 1 ≤ s.data.toList.length
  · have k1 : (1 : Int) ≤ (s.size : Int) := by omega
    by_cases h2 : s.data.toList.length ≤ 16
    · have k2 : (s.size : Int) ≤ 16 := by omega
      have hs : whoOk s.data.toList = true := by unfold whoOk; exact decide_eq_true ⟨h1, h2⟩
      rw [hs]
      clear hs hl
      go_enter Tryd.func25, Tryd.ntmps25
      go_wp2_with fail
      refine (need_yes _ (es .range)).mono ?_
      rintro e w1 ⟨rfl, hb1⟩
      have HB1 := Lib.hid (below_on HB.out hb1)
      clear hb1
      go_wp2_with fail
      go_end0
      exact GuardP.yes ⟨rfl, HB1.out⟩
    · have k2 : ¬ (s.size : Int) ≤ 16 := by omega
      have hs : whoOk s.data.toList = false := by unfold whoOk; exact decide_eq_false fun h => h2 h.2
      rw [hs]
      clear hs hl
      go_enter Tryd.func25, Tryd.ntmps25
      go_wp2_with fail
      refine (need_no _ (es .range)).mono ?_
      rintro e w1 ⟨rfl, hb1⟩
      exact ⟨rfl, GuardP.no ⟨rfl, below_on HB.out hb1⟩⟩
  · have k1 : ¬ (1 : Int) ≤ (s.size : Int) := by omega
    have hs : whoOk s.data.toList = false := by unfold whoOk; exact decide_eq_false fun h => h1 h.1
    rw [hs]
    clear hs hl
    go_enter Tryd.func25, Tryd.ntmps25
    go_wp2_with fail
    refine (need_no _ (es .range)).mono ?_
    rintro e w1 ⟨rfl, hb1⟩
    exact ⟨rfl, GuardP.no ⟨rfl, below_on HB.out hb1⟩⟩
set_option maxRecDepth 8000 in
theorem number_any (es : Er → Addr) (w : World) (n : Int) (hE : ErrAt w.heap.size w 1 (es .range)) :
    Calls Tryd.prog 26 #[.agg #[], .int .i64 n] w (GuardP w (numOk n) (es .range)) := by
  have hc := hE.cell
  have hg := hE.g_lt
  have HE := Lib.hid hE
  have HB := Lib.hid (below_box w (Obj.cells #[] 52))
  clear hE
  by_cases h1 : 0 ≤ n
  · have k1 : 0 ≤ n := by omega
    by_cases h2 : n ≤ 1099511627776
    · have k2 : n ≤ 1099511627776 := by omega
      have hs : numOk n = true := by unfold numOk; exact decide_eq_true ⟨h1, h2⟩
      rw [hs]
      clear hs
      go_enter Tryd.func26, Tryd.ntmps26
      go_wp2_with fail
      refine (need_yes _ (es .range)).mono ?_
      rintro e w1 ⟨rfl, hb1⟩
      have HB1 := Lib.hid (below_on HB.out hb1)
      clear hb1
      go_wp2_with fail
      go_end0
      exact GuardP.yes ⟨rfl, HB1.out⟩
    · have k2 : ¬ n ≤ 1099511627776 := by omega
      have hs : numOk n = false := by unfold numOk; exact decide_eq_false fun h => h2 h.2
      rw [hs]
      clear hs
      go_enter Tryd.func26, Tryd.ntmps26
      go_wp2_with fail
      refine (need_no _ (es .range)).mono ?_
      rintro e w1 ⟨rfl, hb1⟩
      exact ⟨rfl, GuardP.no ⟨rfl, below_on HB.out hb1⟩⟩
  · have k1 : ¬ 0 ≤ n := by omega
    have hs : numOk n = false := by unfold numOk; exact decide_eq_false fun h => h1 h.1
    rw [hs]
    clear hs
    go_enter Tryd.func26, Tryd.ntmps26
    go_wp2_with fail
    refine (need_no _ (es .range)).mono ?_
    rintro e w1 ⟨rfl, hb1⟩
    exact ⟨rfl, GuardP.no ⟨rfl, below_on HB.out hb1⟩⟩
end Go.Proofs.YtnnokbipcenbgaaDoor
