/- A whole number that isn't zero is a float that isn't zero; frames of unlike bytes. -/
import Derived.Test.YtpekagkhgegefaaDoorVu
import Derived.Laws.Cover2
set_option linter.unusedVariables false
set_option linter.unusedSimpArgs false
set_option linter.unnecessarySimpa false
namespace Go.Proofs.YtpekagkhgegefaaDoor

theorem word_ne (f : Ieee.Format) (neg : Bool) (r : Nat) (h : 0 < r) : f.word neg r ≠ 0 := by
  unfold Ieee.Format.word
  split <;> omega
theorem float_ne (n : Int) (h : n ≠ 0) : floatOfInt .f64 n ≠ 0 := by
  have hm : n.natAbs ≠ 0 := by omega
  have e : floatOfInt .f64 n = Ieee.double.nearest (decide (n < 0)) n.natAbs 0 := rfl
  rw [e]
  unfold Ieee.Format.nearest
  rw [if_neg hm]
  simp only
  apply word_ne
  have h1 : Ieee.double.leastPlace = -1074 := by decide
  have h2 : Ieee.double.binade = 4503599627370496 := by decide
  have h3 : Ieee.double.infRung = 9218868437227405312 := by decide
  have h4 : Ieee.double.fractionBits = 52 := rfl
  rw [h1, h2, h3, h4]
  have h5 : 1 ≤ (max (0 + (n.natAbs.log2 : Int) - ((52 : Nat) : Int)) (-1074) - -1074).toNat := by omega
  have h6 : 1 * 4503599627370496 ≤ (max (0 + (n.natAbs.log2 : Int) - ((52 : Nat) : Int)) (-1074) - -1074).toNat * 4503599627370496 := Nat.mul_le_mul_right _ h5
  omega

/-- What a frame has to be that its bytes are read back. -/
def Fr.fits (f : Fr) : Prop := f.weight < 18446744073709551616 ∧ ∀ x, x < 9 → (cellF f x).n ≤ 9223372036854775807
theorem put_inj {f g : Fr} (hf : checkF f = true) (hg : checkF g = true) (ff : f.fits) (fg : g.fits) : putF f = putF g ↔ f = g := by
  constructor
  · intro h
    have h1 := get_put hf ff.1 ff.2
    have h2 := get_put hg fg.1 fg.2
    rw [h, h2] at h1
    injection h1 with h1
    exact h1.symm
  · rintro rfl
    rfl
theorem get_other {f g : Fr} {c : Bs} (h : getF c = some g) (hc : c ≠ putF f) : g ≠ f := by
  rintro rfl
  exact hc (put_get h).2.1.symm
theorem get_sum {c : Bs} (h : (sha (c.take (c.length - 4))).take 4 ≠ c.drop (c.length - 4)) : getF c = none := by
  unfold getF
  split
  · rfl
  · rw [if_pos (.inl h)]
end Go.Proofs.YtpekagkhgegefaaDoor
