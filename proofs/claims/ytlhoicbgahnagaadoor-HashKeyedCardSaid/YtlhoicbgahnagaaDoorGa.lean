/- Walk of the statement HashHexes. -/
import Derived.Test.YtlhoicbgahnagaaDoorHl
set_option linter.unusedVariables false
set_option linter.unusedSimpArgs false
set_option linter.unnecessarySimpa false
namespace Go.Proofs.YtlhoicbgahnagaaDoor
open Go.RowKit

theorem cat_bytes (x y : Bs) : (⟨x.toArray⟩ : ByteArray) ++ ⟨y.toArray⟩ = ⟨(x ++ y).toArray⟩ := by
  apply ByteArray.ext
  simp
set_option maxRecDepth 8000 in
set_option maxHeartbeats 2000000 in
theorem hexes_walk (w : World) (A B : Option Addr) (ca cb : Nat) (a b : Bs) (hRo : RoundAt w) (hA : RdC (· < w.heap.size) w A (bvs a)) (hB : RdC (· < w.heap.size) w B (bvs b)) (hla : a.length ≤ maxLen) (hlb : b.length ≤ maxLen) (hca : a.length ≤ ca) (hcb : b.length ≤ cb) :
    Calls Tryd.prog 5 #[.slice A a.length ca, .slice B b.length cb] w (OkPost w) := by
  obtain ⟨i0, hi, hz0, hz1, hz2⟩ := info_parts infoU8h
  unfold maxLen at hla hlb
  have HRo := Lib.hid hRo
  have HA := Lib.hid hA
  have HB := Lib.hid hB
  clear hRo hA hB
  by_cases ha : a.length ≤ 5000
  · have t1 : ¬ (5000 : Int) < (a.length : Int) := by omega
    by_cases hb : b.length ≤ 5000
    · have t2 : ¬ (5000 : Int) < (b.length : Int) := by omega
      go_enter Tryd.func5, Tryd.ntmps5
      go_wp2_with fail
      refine (alive_any w HRo.out).mono ?_
      rintro e w0 ⟨rfl, hb0⟩
      have HB0 := Lib.hid hb0
      have HA0 := Lib.hid (HA.out.step hb0)
      have HBb0 := Lib.hid (HB.out.step hb0)
      clear hb0
      have hz := World.ownsRow_lit (base := w0.heap.size) (e := 5) (size := 1) w0 #[] 0 (Nat.le_refl _) (by simp [maxLen]) (by simp)
      have HZ := Lib.hid hz
      have HAl := Lib.hid (show Below w0.heap.size w0 (w0.alloc (.cells #[] 5)) from (Below.refl _ _).alloc (Nat.le_refl _) _)
      clear hz
      go_wp2_with (first
        | (at_builtin; refine wpList_appS (ok := fun k => k < w0.heap.size) _ w0.heap.size (.tmp 16) (.tmp 17) 22 5 i0 (.int .u8 0) 1 1 rfl (by rfl) Tryd.underlying22 hi hz0 hz1 hz2 rfl (by omega) (by omega) _ 0 [] (by rfl) HZ.out A a.length ca (bvs a) (by rfl) (by simp)
            (HA0.out.below HAl.out) (bvs_one a) (by omega) (by simp) ?_; intro v1 w2 hown1 hg1; have HB2 := Lib.hid (show Below w0.heap.size w0 w2 from hg1.below HAl.out (by simp) (own_base HZ.out)); have HO1 := Lib.hid hown1; clear hg1 hown1)
        | (at_builtin; refine wpList_appS (ok := fun k => k < w0.heap.size) _ w0.heap.size (.tmp 18) (.tmp 19) 22 5 i0 (.int .u8 0) 1 1 rfl (by rfl) Tryd.underlying22 hi hz0 hz1 hz2 rfl (by omega) (by omega) _ (0 + a.length) ([] ++ bvs a) (by rfl) HO1.out B b.length cb (bvs b) (by rfl) (by simp)
            (HBb0.out.below HB2.out) (bvs_one b) (by omega) (by exact HB2.out.size) ?_; intro v2 w3 hown2 hg2))
      have hb3w : Below w0.heap.size w0 w3 := hg2.below HB2.out HB2.out.size (own_base HO1.out)
      have hown3 : w3.ownsRow w0.heap.size 5 1 v2 (a ++ b).length (bvs (a ++ b)) := by
        rw [bvs_append, List.length_append]
        simpa using hown2
      have hlen : (a ++ b).length = a.length + b.length := List.length_append
      obtain ⟨A3, c3, rfl, hc3, _⟩ := own_slice hown3
      have hx1 := hex_any w3 A3 c3 (a ++ b) (by omega) ((RdC.of_own hown3).mono (fun k hk => hk.2))
      rw [hlen] at hx1
      have HX1 := Lib.hid hx1
      have HB3 := Lib.hid (show Below w.heap.size w w3 from HB0.out.trans (hb3w.mono HB0.out.size))
      have HA3 := Lib.hid (HA0.out.toBelow hb3w hb3w.size)
      have HBb3 := Lib.hid (HBb0.out.toBelow hb3w hb3w.size)
      clear hown2 hown3 hg2 hb3w hx1 hlen
      simp only [List.length_append] at *
      go_wp2_with fail
      refine HX1.out.mono ?_
      rintro e w4 ⟨rfl, hb4⟩
      have HB4 := Lib.hid (HB3.out.trans (hb4.mono HB3.out.size))
      have HX2 := Lib.hid (hex_any w4 A ca a (by omega) (HA3.out.step hb4))
      have HBb4 := Lib.hid (HBb3.out.step hb4)
      clear hb4
      go_wp2_with fail
      refine HX2.out.mono ?_
      rintro e w5 ⟨rfl, hb5⟩
      have HB5 := Lib.hid (HB4.out.trans (hb5.mono HB4.out.size))
      have HX3 := Lib.hid (hex_any w5 B cb b (by omega) (HBb4.out.step hb5))
      clear hb5
      go_wp2_with fail
      refine HX3.out.mono ?_
      rintro e w6 ⟨rfl, hb6⟩
      have HB6 := Lib.hid (HB5.out.trans (hb6.mono HB5.out.size))
      clear hb6
      rw [hex_append]
      have l1 := hex_length a
      have l2 := hex_length b
      generalize hex a = x at *
      generalize hex b = y at *
      have hcat : (⟨x.toArray⟩ : ByteArray) ++ ⟨y.toArray⟩ = ⟨(x ++ y).toArray⟩ := cat_bytes x y
      have t5 : ((x.length : Int) + (y.length : Int) == 2 * ((a.length : Int) + (b.length : Int))) = true := by simp; omega
      have l3 : x.length ≤ 10000 := by omega
      have l4 : y.length ≤ 10000 := by omega
      clear l1 l2
      go_wp2_with fail
      go_ret
      exact ⟨rfl, HB6.out⟩
    · have t2 : (5000 : Int) < (b.length : Int) := by omega
      go_enter Tryd.func5, Tryd.ntmps5
      go_wp2_with fail
      refine (alive_any w HRo.out).mono ?_
      rintro e w0 ⟨rfl, hb0⟩
      have HB0 := Lib.hid hb0
      clear hb0
      go_wp2_with fail
      go_ret
      exact ⟨rfl, HB0.out⟩
  · have t1 : (5000 : Int) < (a.length : Int) := by omega
    go_enter Tryd.func5, Tryd.ntmps5
    go_wp2_with fail
    refine (alive_any w HRo.out).mono ?_
    rintro e w0 ⟨rfl, hb0⟩
    have HB0 := Lib.hid hb0
    clear hb0
    go_wp2_with fail
    go_ret
    exact ⟨rfl, HB0.out⟩
end Go.Proofs.YtlhoicbgahnagaaDoor
