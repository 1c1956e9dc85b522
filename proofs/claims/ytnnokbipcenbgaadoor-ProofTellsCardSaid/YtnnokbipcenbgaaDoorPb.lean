/- Walks of package proof, second part: sum. -/
import Derived.Test.YtnnokbipcenbgaaDoorPs
import Derived.Test.YtnnokbipcenbgaaDoorFy
import Derived.Test.YtnnokbipcenbgaaDoorHk
import Derived.Test.YtnnokbipcenbgaaDoorHa
import Derived.Recover
set_option linter.unusedVariables false
set_option linter.unusedSimpArgs false
set_option linter.unnecessarySimpa false
namespace Go.Proofs.YtnnokbipcenbgaaDoor
open Go.RowKit

/-- What a call of a guard gives up with. -/
def wrongP (a : Addr) : PanicEntry := { v := .iface 78 (.agg #[errV a]), recovered := false }
def GuardP (w : World) (ok : Bool) (a : Addr) (e : Ending) (w' : World) : Prop := (if ok = true then e = .returned (.tuple #[]) else e = .panicked [wrongP a]) ∧ Below w.heap.size w w'
def YesP (w : World) (e : Ending) (w' : World) : Prop := e = .returned (.tuple #[]) ∧ Below w.heap.size w w'
def NoP (w : World) (a : Addr) (e : Ending) (w' : World) : Prop := e = .panicked [wrongP a] ∧ Below w.heap.size w w'
theorem GuardP.yes {w : World} {a : Addr} {e : Ending} {w' : World} (h : YesP w e w') : GuardP w true a e w' := ⟨h.1, h.2⟩
theorem GuardP.no {w : World} {a : Addr} {e : Ending} {w' : World} (h : NoP w a e w') : GuardP w false a e w' := ⟨h.1, h.2⟩
theorem below_box (w : World) (o : Obj) : Below w.heap.size w (w.alloc o) := (Below.refl _ _).alloc (Nat.le_refl _) _
set_option maxRecDepth 8000 in
theorem need_yes (w : World) (a : Addr) : Calls Tryd.prog 30 #[.agg #[], .bool true, errV a] w (YesP w) := by
  have HB := Lib.hid (below_box w (Obj.cells #[] 52))
  unfold errV
  go_enter Tryd.func30, Tryd.ntmps30
  go_wp2_with fail
  go_end0
  exact ⟨rfl, HB.out⟩
set_option maxRecDepth 8000 in
theorem need_no (w : World) (a : Addr) : Calls Tryd.prog 30 #[.agg #[], .bool false, errV a] w (NoP w a) := by
  have HB := Lib.hid (below_box w (Obj.cells #[] 52))
  unfold errV
  go_enter Tryd.func30, Tryd.ntmps30
  go_wp2_with fail
  exact ⟨rfl, rfl, HB.out⟩
set_option maxRecDepth 8000 in
theorem secret_any (es : Er → Addr) (w : World) (A : Option Addr) (c : Nat) (b : Bs) (hE : ErrAt w.heap.size w 1 (es .range)) :
    Calls Tryd.prog 24 #[.agg #[], .slice A b.length c] w (GuardP w (secretOk b) (es .range)) := by
  have hc := hE.cell
  have hg := hE.g_lt
  have HE := Lib.hid hE
  have HB := Lib.hid (below_box w (Obj.cells #[] 52))
  clear hE
  by_cases h1 : 1 ≤ b.length
  · have k1 : (1 : Int) ≤ (b.length : Int) := by omega
    by_cases h2 : b.length ≤ 64
    · have k2 : (b.length : Int) ≤ 64 := by omega
      have hs : secretOk b = true := by unfold secretOk; exact decide_eq_true ⟨h1, h2⟩
      rw [hs]
      clear hs
      go_enter Tryd.func24, Tryd.ntmps24
      go_wp2_with fail
      refine (need_yes _ (es .range)).mono ?_
      rintro e w1 ⟨rfl, hb1⟩
      have HB1 := Lib.hid (below_on HB.out hb1)
      clear hb1
      go_wp2_with fail
      go_end0
      exact GuardP.yes ⟨rfl, HB1.out⟩
    · have k2 : ¬ (b.length : Int) ≤ 64 := by omega
      have hs : secretOk b = false := by unfold secretOk; exact decide_eq_false fun h => h2 h.2
      rw [hs]
      clear hs
      go_enter Tryd.func24, Tryd.ntmps24
      go_wp2_with fail
      refine (need_no _ (es .range)).mono ?_
      rintro e w1 ⟨rfl, hb1⟩
      exact ⟨rfl, GuardP.no ⟨rfl, below_on HB.out hb1⟩⟩
  · have k1 : ¬ (1 : Int) ≤ (b.length : Int) := by omega
    have hs : secretOk b = false := by unfold secretOk; exact decide_eq_false fun h => h1 h.1
    rw [hs]
    clear hs
    go_enter Tryd.func24, Tryd.ntmps24
    go_wp2_with fail
    refine (need_no _ (es .range)).mono ?_
    rintro e w1 ⟨rfl, hb1⟩
    exact ⟨rfl, GuardP.no ⟨rfl, below_on HB.out hb1⟩⟩
set_option maxRecDepth 8000 in
theorem who_any (es : Er → Addr) (w : World) (s : ByteArray) (hl : s.size = s.data.toList.length) (hE : ErrAt w.heap.size w 1 (es .range)) :
    Calls Tryd.prog 25 #[.agg #[], .string s] w (GuardP w (whoOk s.data.toList) (es .range)) := by
  have hc := hE.cell
  have hg := hE.g_lt
  have HE := Lib.hid hE
  have HB := Lib.hid (below_box w (Obj.cells #[] 52))
  clear hE
  by_cases h1 : 1 ≤ s.data.toList.length
  · have k1 : (1 : Int) ≤ (s.size : Int) := by omega
    by_cases h2 : s.data.toList.length ≤ 16
    · have k2 : (s.size : Int) ≤ 16 := by omega
      have hs : whoOk s.data.toList = true := by unfold whoOk; exact decide_eq_true ⟨h1, h2⟩
      rw [hs]
      clear hs hl
      go_enter Tryd.func25, Tryd.ntmps25
      go_wp2_with fail
      refine (need_yes _ (es .range)).mono ?_
      rintro e w1 ⟨rfl, hb1⟩
      have HB1 := Lib.hid (below_on HB.out hb1)
      clear hb1
      go_wp2_with fail
      go_end0
      exact GuardP.yes ⟨rfl, HB1.out⟩
    · have k2 : ¬ (s.size : Int) ≤ 16 := by omega
      have hs : whoOk s.data.toList = false := by unfold whoOk; exact decide_eq_false fun h => h2 h.2
      rw [hs]
      clear hs hl
      go_enter Tryd.func25, Tryd.ntmps25
      go_wp2_with fail
      refine (need_no _ (es .range)).mono ?_
      rintro e w1 ⟨rfl, hb1⟩
      exact ⟨rfl, GuardP.no ⟨rfl, below_on HB.out hb1⟩⟩
  · have k1 : ¬ (1 : Int) ≤ (s.size : Int) := by omega
    have hs : whoOk s.data.toList = false := by unfold whoOk; exact decide_eq_false fun h => h1 h.1
    rw [hs]
    clear hs hl
    go_enter Tryd.func25, Tryd.ntmps25
    go_wp2_with fail
    refine (need_no _ (es .range)).mono ?_
    rintro e w1 ⟨rfl, hb1⟩
    exact ⟨rfl, GuardP.no ⟨rfl, below_on HB.out hb1⟩⟩
set_option maxRecDepth 8000 in
theorem number_any (es : Er → Addr) (w : World) (n : Int) (hE : ErrAt w.heap.size w 1 (es .range)) :
    Calls Tryd.prog 26 #[.agg #[], .int .i64 n] w (GuardP w (numOk n) (es .range)) := by
  have hc := hE.cell
  have hg := hE.g_lt
  have HE := Lib.hid hE
  have HB := Lib.hid (below_box w (Obj.cells #[] 52))
  clear hE
  by_cases h1 : 0 ≤ n
  · have k1 : 0 ≤ n := by omega
    by_cases h2 : n ≤ 1099511627776
    · have k2 : n ≤ 1099511627776 := by omega
      have hs : numOk n = true := by unfold numOk; exact decide_eq_true ⟨h1, h2⟩
      rw [hs]
      clear hs
      go_enter Tryd.func26, Tryd.ntmps26
      go_wp2_with fail
      refine (need_yes _ (es .range)).mono ?_
      rintro e w1 ⟨rfl, hb1⟩
      have HB1 := Lib.hid (below_on HB.out hb1)
      clear hb1
      go_wp2_with fail
      go_end0
      exact GuardP.yes ⟨rfl, HB1.out⟩
    · have k2 : ¬ n ≤ 1099511627776 := by omega
      have hs : numOk n = false := by unfold numOk; exact decide_eq_false fun h => h2 h.2
      rw [hs]
      clear hs
      go_enter Tryd.func26, Tryd.ntmps26
      go_wp2_with fail
      refine (need_no _ (es .range)).mono ?_
      rintro e w1 ⟨rfl, hb1⟩
      exact ⟨rfl, GuardP.no ⟨rfl, below_on HB.out hb1⟩⟩
  · have k1 : ¬ 0 ≤ n := by omega
    have hs : numOk n = false := by unfold numOk; exact decide_eq_false fun h => h1 h.1
    rw [hs]
    clear hs
    go_enter Tryd.func26, Tryd.ntmps26
    go_wp2_with fail
    refine (need_no _ (es .range)).mono ?_
    rintro e w1 ⟨rfl, hb1⟩
    exact ⟨rfl, GuardP.no ⟨rfl, below_on HB.out hb1⟩⟩
end Go.Proofs.YtnnokbipcenbgaaDoor
/- Walks of package proof, first part: what a guard asks. -/
set_option linter.unusedVariables false
set_option linter.unusedSimpArgs false
set_option linter.unnecessarySimpa false
namespace Go.Proofs.YtnnokbipcenbgaaDoor
open Go.RowKit
attribute [local go_sem] run_store_flt

def SumP (w : World) (d : Bs) (e : Ending) (w' : World) : Prop := ∃ g, e = .returned (.slice (some ⟨g, 0, none⟩) 32 32) ∧ w.heap.size ≤ g ∧ BArr w' g 81 d ∧ Below w.heap.size w w'
theorem bvs_one1 (x : UInt8) : (bvs [x]).toArray = #[bv x] := rfl
set_option maxRecDepth 8000 in
set_option maxHeartbeats 800000 in
theorem sum_any (es : Er → Addr) (w : World) (K : Option Addr) (kc : Nat) (key : Bs) (letter : UInt8) (s : ByteArray) (C : Option Addr) (n cc : Nat) (cells : List Cell) (enc : Bs) (hE : E3 w.heap.size w es) (hRo : RoundAt w)
    (hK : RdC (· < w.heap.size) w K (bvs key)) (hkc : key.length ≤ kc) (hkl : key.length ≤ 1099511627776) (hn : n = cells.length) (hC : RdC (· < w.heap.size) w C (cells.flatMap cellVs)) (hs : s.size ≤ maxLen) (hcl : cells.length ≤ maxLen)
    (hcost : cost cells ≤ 140737488355328) (hnum : ∀ c ∈ cells, c.n ≤ 9223372036854775807) (henc : encode s.data.toList cells = .ok enc) (hel : enc.length ≤ 1000000) :
    Calls Tryd.prog 33 #[.slice K key.length kc, bv letter, .string s, .slice C n cc] w (SumP w (keyed key (letter :: enc))) := by
  subst hn
  have hen := encode_any es w s C _ cc cells rfl hE hC hs hcl hcost hnum
  rw [henc] at hen
  have HEn := Lib.hid hen
  have HK := Lib.hid hK
  have HRo := Lib.hid hRo
  clear hen hK hRo hC hE henc hcost hnum
  unfold bv
  go_enter Tryd.func33, Tryd.ntmps33
  go_wp2_with fail
  refine HEn.out.mono ?_
  rintro e w1 ⟨hb1, v1, rfl, hown⟩
  obtain ⟨A1, c1, rfl, hc1, _⟩ := own_slice hown
  have hb2 : Below w1.heap.size w1 (w1.alloc (.cells #[bv letter] 5)) := (Below.refl _ _).alloc (Nat.le_refl _) _
  have hr1 := ((RdC.of_own hown).mono (ok' := (· < w1.heap.size)) fun _ h => h.2)
  have hrows : RowsOf (· < (w1.alloc (.cells #[bv letter] 5)).heap.size) (w1.alloc (.cells #[bv letter] 5)) [.slice (some ⟨w1.heap.size, 0, none⟩) 1 1, .slice A1 enc.length c1] [[letter], enc] := by
    refine RowsOf.cons (p := [letter]) (RowsOf.cons (p := enc) (RowsOf.nil _ _) (hr1.step hb2) hc1) ?_ (Nat.le_refl _)
    exact (RdC.new w1 #[bv letter] 5).mono (fun k hk => by simp; omega)
  have hk2 := keyed_new (w1.alloc (.cells #[bv letter] 5)) K kc key _ [[letter], enc] 2 key.length rfl rfl ((HRo.out.below hb1 HRo.out.lt).below hb2 (HRo.out.below hb1 HRo.out.lt).lt) ((HK.out.step hb1).step hb2) hkc hrows (by simp) (by simp; omega) hkl
  rw [show ([[letter], enc] : List Bs).flatten = letter :: enc by simp, size_alloc1] at hk2
  have hkl2 : (keyed key (letter :: enc)).length = 32 := keyed_len _ _
  have HB1 := Lib.hid hb1
  have HB2 := Lib.hid (below_on hb1 hb2)
  unfold bv at hk2
  have HK2 := Lib.hid hk2
  clear hb1 hown hb2 hr1 hrows hk2
  go_wp2_with fail
  refine HK2.out.mono ?_
  rintro e w2 ⟨rfl, hb3⟩
  generalize keyed key (letter :: enc) = D at *
  have HDl := Lib.hid hkl2
  clear hkl2
  have HB3 := Lib.hid (below_on HB2.out hb3)
  have hi32 : (Tryd.prog.info? 81).map (·.size) = some ((bvs D).toArray).size := by rw [info32]; simp [HDl.out]
  have HI32 := Lib.hid hi32
  clear hi32 hb3
  go_wp2_with (with_reducible refine wpList_store_new (op := ⟨none, .store 81 (.tmp 11) _, _, _, _, _⟩) rfl 81 _ _ rfl _ (bvs D).toArray _ rfl rfl (by simp; exact HDl.out.symm) HI32.out (by simpa using bv_one D) ?_)
  go_ret
  exact ⟨w2.heap.size, rfl, HB3.out.size, heap_alloc_new _ _, HB3.out.alloc HB3.out.size _⟩
end Go.Proofs.YtnnokbipcenbgaaDoor
