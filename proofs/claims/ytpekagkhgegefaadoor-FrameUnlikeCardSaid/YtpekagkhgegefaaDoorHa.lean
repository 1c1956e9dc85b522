/- Walk of package hash: Alike. -/
import Derived.Test.YtpekagkhgegefaaDoorHu
set_option linter.unusedVariables false
set_option linter.unusedSimpArgs false
set_option linter.unnecessarySimpa false
namespace Go.Proofs.YtpekagkhgegefaaDoor
open Go.RowKit

/-- What is unlike so far. -/
def unlikeTo (a b : Bs) : Nat → Nat
  | 0 => 0
  | t + 1 => unlikeTo a b t ||| ((a.getD t 0).toNat ^^^ (b.getD t 0).toNat)
theorem unlikeTo_lt (a b : Bs) : ∀ t, unlikeTo a b t < 256
  | 0 => by show 0 < 256; omega
  | t + 1 => Nat.or_lt_two_pow (n := 8) (unlikeTo_lt a b t) (Nat.xor_lt_two_pow (n := 8) (UInt8.toNat_lt _) (UInt8.toNat_lt _))
theorem unlikeTo_zero (a b : Bs) : ∀ t, t ≤ a.length → t ≤ b.length → (unlikeTo a b t = 0 ↔ a.take t = b.take t)
  | 0, _, _ => by simp [unlikeTo]
  | t + 1, ha, hb => by
    unfold unlikeTo
    rw [or_zero, xor_zero, unlikeTo_zero a b t (by omega) (by omega), List.take_succ_eq_append_getElem (by omega), List.take_succ_eq_append_getElem (by omega)]
    have ea : a.getD t 0 = a[t] := by simp [show t < a.length by omega]
    have eb : b.getD t 0 = b[t] := by simp [show t < b.length by omega]
    rw [ea, eb]
    constructor
    · rintro ⟨h1, h2⟩
      rw [h1, UInt8.toNat_inj.1 h2]
    · intro h
      have h3 := List.append_inj h (by simp; omega)
      exact ⟨h3.1, by have := h3.2; simp at this; rw [this]⟩
theorem unlikeTo_all (a b : Bs) (h : a.length = b.length) : unlikeTo a b a.length = 0 ↔ a = b := by
  rw [unlikeTo_zero a b a.length (Nat.le_refl _) (by omega), List.take_length, h, List.take_length]
/-- What Alike answers. -/
def AlikeP (w : World) (a b : Bs) (e : Ending) (w' : World) : Prop := e = .returned (.bool (decide (a = b))) ∧ ∃ n, w' = w.drewN n
set_option maxRecDepth 8000 in
set_option maxHeartbeats 2000000 in
theorem alike_any (w : World) (okA okB : Nat → Prop) (A B : Option Addr) (ca cb : Nat) (a b : Bs) (hA : RdC okA w A (bvs a)) (hB : RdC okB w B (bvs b)) (hla : a.length ≤ 140737488355328) (hlb : b.length ≤ 9223372036854775807) :
    Calls Tryd.prog 48 #[.slice A a.length ca, .slice B b.length cb] w (AlikeP w a b) := by
  have HA := Lib.hid hA
  have HB := Lib.hid hB
  clear hA hB
  by_cases hlen : a.length = b.length
  · have t0 : ((a.length : Int) != (b.length : Int)) = false := by simp [hlen]
    have hub := unlikeTo_all a b hlen
    have HL := Lib.hid hlen
    have HU := Lib.hid hub
    clear hlen hub
    go_enter Tryd.func48, Tryd.ntmps48
    go_wp2_with fail
    go_loopw [5, 14] (fun u i wq => ∃ t : Nat, t ≤ a.length ∧ i = .int .i64 t ∧ u = .int .u8 ((unlikeTo a b t : Nat) : Int) ∧ ∃ n, wq = w.drewN n) (fun _ i _ => a.length - (intOf i).toNat)
    case atStart => exact ⟨0, Nat.zero_le _, rfl, rfl, 0, rfl⟩
    case round =>
      obtain ⟨t, ht, rfl, rfl, n, rfl⟩ := hrel
      by_cases hlt : t < a.length
      · obtain ⟨ad, rfl, _, c1⟩ := HA.out.byte t hlt
        obtain ⟨bd, rfl, _, c2⟩ := HB.out.byte t (by have := HL.out; omega)
        have hlb2 : t < b.length := by have := HL.out; omega
        have hu : unlikeTo a b (t + 1) = unlikeTo a b t ||| ((a.getD t 0).toNat ^^^ (b.getD t 0).toNat) := rfl
        have b1 := unlikeTo_lt a b t
        have b2 := (a.getD t 0).toNat_lt
        have b3 := (b.getD t 0).toNat_lt
        generalize (a.getD t 0).toNat = x at *
        generalize (b.getD t 0).toNat = y at *
        generalize unlikeTo a b t = u at *
        have hx := xor8 x y b2 b3
        have hxl : x ^^^ y < 256 := Nat.xor_lt_two_pow (n := 8) b2 b3
        have ho := or8 u (x ^^^ y) b1 hxl
        have j0 : (0 : Int) ≤ (t : Int) := by omega
        have j1 : (t : Int) < (a.length : Int) := by omega
        have j2 : (t : Int) < (b.length : Int) := by omega
        have HUu := Lib.hid hu
        clear hu
        go_wp2_with fail
        go_quiet (fail)
        go_wp2_with fail
        exact ⟨⟨t + 1, by omega, by go_num, by rw [HUu.out], n + nq, rfl⟩, by simp [intOf]; omega⟩
      · obtain rfl : t = a.length := by omega
        by_cases hab : a = b
        · have t1 : (((unlikeTo a b a.length : Nat) : Int) == 0) = true := by rw [HU.out.2 hab]; rfl
          have HAB := Lib.hid hab
          clear hab
          go_wp2_with fail
          go_ret
          exact ⟨by rw [decide_eq_true HAB.out]; rfl, n, rfl⟩
        · have t1 : (((unlikeTo a b a.length : Nat) : Int) == 0) = false := by simp; exact fun h => hab (HU.out.1 h)
          have HAB := Lib.hid hab
          clear hab
          go_wp2_with fail
          go_ret
          exact ⟨by rw [decide_eq_false HAB.out]; rfl, n, rfl⟩
  · have t0 : ((a.length : Int) != (b.length : Int)) = true := by simp; omega
    have HL := Lib.hid hlen
    clear hlen
    go_enter Tryd.func48, Tryd.ntmps48
    go_wp2_with fail
    go_ret
    exact ⟨by rw [decide_eq_false (fun e => HL.out (by rw [e]))]; rfl, 0, rfl⟩

end Go.Proofs.YtpekagkhgegefaaDoor
