/- Walk of the statement HashAlike. -/
import Derived.Test.YtlhoicbgahnagaaDoorGc
set_option linter.unusedVariables false
set_option linter.unusedSimpArgs false
set_option linter.unnecessarySimpa false
namespace Go.Proofs.YtlhoicbgahnagaaDoor
open Go.RowKit

set_option maxRecDepth 8000 in
set_option maxHeartbeats 4000000 in
theorem alike_walk (w : World) (A B : Option Addr) (ca cb : Nat) (a b : Bs) (hRo : RoundAt w) (hA : RdC (· < w.heap.size) w A (bvs a)) (hB : RdC (· < w.heap.size) w B (bvs b)) (hla : a.length ≤ maxLen) (hlb : b.length ≤ maxLen) (hca : a.length ≤ ca) (hcb : b.length ≤ cb) :
    Calls Tryd.prog 9 #[.slice A a.length ca, .slice B b.length cb] w (OkPost w) := by
  obtain ⟨i0, hi, hz0, hz1, hz2⟩ := info_parts infoU8h
  unfold maxLen at hla hlb
  have HRo := Lib.hid hRo
  have HA := Lib.hid hA
  have HB := Lib.hid hB
  clear hRo hA hB
  by_cases ha : a.length ≤ 20000
  · have t1 : ¬ (20000 : Int) < (a.length : Int) := by omega
    go_enter Tryd.func9, Tryd.ntmps9
    go_wp2_with fail
    refine (alive_any w HRo.out).mono ?_
    rintro e w0 ⟨rfl, hb0⟩
    have HB0 := Lib.hid hb0
    have HA0 := Lib.hid (HA.out.step hb0)
    have HBb0 := Lib.hid (HB.out.step hb0)
    clear hb0
    go_wp2_with fail
    have hz := World.ownsRow_lit (base := w0.heap.size) (e := 5) (size := 1) w0 #[] 0 (Nat.le_refl _) (by simp [maxLen]) (by simp)
    have HZ := Lib.hid hz
    clear hz
    go_loopw [5, 16] (fun v i wq => ∃ t : Nat, t ≤ a.length ∧ i = .int .i64 t ∧ wq.ownsRow w0.heap.size 5 1 v (2 * t) (bvs (hex (a.take t))) ∧ Below w0.heap.size w0 wq) (fun _ i _ => a.length - (intOf i).toNat)
    case atStart => exact ⟨0, Nat.zero_le _, rfl, HZ.out, (Below.refl _ _).alloc (Nat.le_refl _) _⟩
    case round =>
      obtain ⟨t, ht, rfl, hown, hbel⟩ := hrel
      by_cases hlt : t < a.length
      · obtain ⟨ad, rfl, _, c1⟩ := (HA0.out.below hbel).byte t hlt
        have hsn := hex_snoc a t hlt
        have b1 := (a.getD t 0).toNat_lt
        generalize (a.getD t 0).toNat = x at *
        have j0 : (0 : Int) ≤ (t : Int) := by omega
        have j1 : (t : Int) < (a.length : Int) := by omega
        have q1 : (x : Int).tdiv 16 = (x : Int) / 16 := Int.tdiv_eq_ediv_of_nonneg (by omega)
        have q2 : (x : Int).tmod 16 = (x : Int) % 16 := Int.tmod_eq_emod_of_nonneg (by omega)
        have q3 : IntKind.u8.wrap ((x : Int) / 16) = (x : Int) / 16 := IntWalk.u8_in _ (by omega)
        have q4 : IntKind.u8.wrap ((x : Int) % 16) = (x : Int) % 16 := IntWalk.u8_in _ (by omega)
        have HO := Lib.hid hown
        have HBe := Lib.hid hbel
        have HSn := Lib.hid hsn
        clear hown hbel hsn
        have hrn : ∀ n1 n2 : Nat, n1 = (hexDigit (x / 16)).toNat → n2 = (hexDigit (x % 16)).toNat → RdC (fun k => k = wr.heap.size) ((wr.alloc (.cells #[.int .u8 (n1 : Int), .int .u8 (n2 : Int)] 5 (0, 0))).drew) (some ⟨wr.heap.size, 0, none⟩) (bvs [hexDigit (x / 16), hexDigit (x % 16)]) := by
          rintro n1 n2 rfl rfl
          exact RdC.new wr #[.int .u8 ((hexDigit (x / 16)).toNat : Int), .int .u8 ((hexDigit (x % 16)).toNat : Int)] 5
        have HRn := Lib.hid hrn
        clear hrn
        have HD1 := Lib.hid (show ∀ h, ((⟨#[48, 49, 50, 51, 52, 53, 54, 55, 56, 57, 97, 98, 99, 100, 101, 102]⟩ : ByteArray)[((x : Int) / 16).toNat]'h).toNat = (hexDigit (x / 16)).toNat from fun h => digit_get _ (x / 16) h (by omega) (by omega))
        have HD2 := Lib.hid (show ∀ h, ((⟨#[48, 49, 50, 51, 52, 53, 54, 55, 56, 57, 97, 98, 99, 100, 101, 102]⟩ : ByteArray)[((x : Int) % 16).toNat]'h).toNat = (hexDigit (x % 16)).toNat from fun h => digit_get _ (x % 16) h (by omega) (by omega))
        have hbw : w0.heap.size ≤ wr.heap.size := HBe.out.size
        go_wp2_with fail
        go_region_held3 (fun _ => True) (trivial)
          ((refine step_appS _ w0.heap.size _ _ 22 5 i0 (.int .u8 0) 1 1 (by rfl) (by rfl) Tryd.underlying22 hi hz0 hz1 hz2 rfl (by omega) (by omega) _ (2 * t) (bvs (hex (a.take t))) (by rfl) (HO.out.alloc _).drew (some ⟨wr.heap.size, 0, none⟩) 2 2 (bvs [hexDigit (x / 16), hexDigit (x % 16)]) (by rfl) (by rfl) (HRn.out _ _ (HD1.out _) (HD2.out _)) (bvs_one _) (by omega) (by simp; omega) ?_; intro v3 w3 hown3 hg3))
        all_goals (
          have hbel2 : Below w0.heap.size w0 w3 := hg3.below ((HBe.out.alloc hbw _).drew) (by simp; omega) (own_base HO.out)
          have hown4 : w3.ownsRow w0.heap.size 5 1 v3 (2 * (t + 1)) (bvs (hex (a.take (t + 1)))) := by
            rw [HSn.out, bvs_append, show 2 * (t + 1) = 2 * t + 2 by omega]
            exact hown3
          have HO4 := Lib.hid hown4
          have HB4 := Lib.hid hbel2
          clear hown3 hg3 hown4 hbel2
          go_wp2_with fail
          exact ⟨⟨t + 1, by omega, by go_num, HO4.out, HB4.out⟩, by simp [intOf]; omega⟩)
      · obtain rfl : t = a.length := by omega
        rw [List.take_length] at hown
        obtain ⟨A3, c3, rfl, _, _⟩ := own_slice hown
        obtain ⟨v, e1, e2⟩ : ∃ v : Bool, decide (a = b) = v ∧ (a == b) = v := ⟨decide (a = b), rfl, by by_cases h : a = b <;> simp [h]⟩
        have hro := RdC.of_own hown
        have ks : ∀ w', Below wr.heap.size wr w' → (convert 22 9 (.slice A a.length ca)).run Tryd.prog w' = .ok (.string ⟨a.toArray⟩) w' ∧ (convert 22 9 (.slice B b.length cb)).run Tryd.prog w' = .ok (.string ⟨b.toArray⟩) w' ∧ (convert 22 9 (.slice A3 (2 * a.length) c3)).run Tryd.prog w' = .ok (.string ⟨(hex a).toArray⟩) w' := fun w' hb => by
          refine ⟨run_str_of Tryd.underlying22 Tryd.underlying5 Tryd.underlying9 rfl ((HA0.out.toBelow hbel hbel.size).below hb), run_str_of Tryd.underlying22 Tryd.underlying5 Tryd.underlying9 rfl ((HBb0.out.toBelow hbel hbel.size).below hb), run_str_of Tryd.underlying22 Tryd.underlying5 Tryd.underlying9 (hex_length a).symm (hro.move fun k hk => hb.block k hk.2)⟩
        have HAr := Lib.hid (HA0.out.toBelow hbel hbel.size)
        have HBr := Lib.hid (HBb0.out.toBelow hbel hbel.size)
        have hal : ∀ W, Below wr.heap.size wr W → Calls Tryd.prog 22 #[.slice A a.length ca, .slice B b.length cb] W (fun e w' => e = .returned (.bool v) ∧ ∃ n, w' = W.drewN n) := fun W hb => by
          have := alike_any W _ _ A B ca cb a b ((HA0.out.toBelow hbel hbel.size).below hb) ((HBb0.out.toBelow hbel hbel.size).below hb) (by omega) (by omega)
          unfold AlikeP at this
          rw [e1] at this
          exact this
        have hal2 : ∀ (W : World) (A5 : Option Addr) (c5 : Nat), Below wr.heap.size wr W → W.ownsRow wr.heap.size 5 1 (.slice A5 a.length c5) a.length (bvs a) → Calls Tryd.prog 22 #[.slice A a.length ca, .slice A5 a.length c5] W (fun e w' => e = .returned (.bool true) ∧ ∃ n, w' = W.drewN n) := fun W A5 c5 hb ho => by
          have := alike_any W _ _ A A5 ca c5 a a ((HA0.out.toBelow hbel hbel.size).below hb) (RdC.of_own ho) (by omega) (by omega)
          unfold AlikeP at this
          rw [decide_eq_true rfl] at this
          exact this
        have hhx : ∀ W, Below wr.heap.size wr W → Calls Tryd.prog 19 #[.slice A a.length ca] W (fun e w' => e = .returned (.string ⟨(hex a).toArray⟩) ∧ Below W.heap.size W w') := fun W hb =>
          hex_any W A ca a (by omega) ((HA0.out.toBelow hbel hbel.size).toBelow hb hb.size)
        have hzr := World.ownsRow_lit (base := wr.heap.size) (e := 5) (size := 1) wr #[] 0 (Nat.le_refl _) (by simp [maxLen]) (by simp)
        have hbz : Below wr.heap.size wr (wr.alloc (.cells #[] 5)) := (Below.refl _ _).alloc (Nat.le_refl _) _
        have HAl := Lib.hid hal
        have HAl2 := Lib.hid hal2
        have HHx := Lib.hid hhx
        have HZr := Lib.hid hzr
        have HBz := Lib.hid hbz
        have KS := Lib.hid ks
        have HBe := Lib.hid hbel
        clear hown hbel hro ks hal hal2 hhx hzr hbz e1
        go_wp2_with fail
        go_region_held3 (fun w' => (convert 22 9 (.slice A a.length ca)).run Tryd.prog w' = .ok (.string ⟨a.toArray⟩) w' ∧ (convert 22 9 (.slice B b.length cb)).run Tryd.prog w' = .ok (.string ⟨b.toArray⟩) w' ∧ (convert 22 9 (.slice A3 (2 * a.length) c3)).run Tryd.prog w' = .ok (.string ⟨(hex a).toArray⟩) w')
          (first
            | exact KS.out _ (Below.refl _ _)
            | exact KS.out _ (below_drewN (Below.refl _ _) _)
            | exact KS.out _ (below_drewN HBz.out _)
            | exact KS.out _ HB2.out
            | exact KS.out _ (below_drewN HB2.out _)
            | exact KS.out _ HB6.out)
          (first
            | (
              (with_reducible refine (HAl.out _ ?_).mono ?_)
              focus exact below_drewN (Below.refl _ _) _
              rintro e w1 ⟨rfl, n1, rfl⟩)
            | (
              (with_reducible refine (HHx.out _ ?_).mono ?_)
              focus (first | exact below_drewN HB2.out _)
              rintro e w6 ⟨rfl, hb6⟩
              have HB6 := Lib.hid (show Below wr.heap.size wr w6 from (below_drewN HB2.out _).trans (hb6.mono HB2.out.size))
              clear hb6)
            | (
              (with_reducible refine (HAl2.out _ _ _ ?_ ?_).mono ?_)
              focus exact HB2.out
              focus exact HO2.out
              rintro e w5 ⟨rfl, n2, rfl⟩)
            | (
              refine step_appSg (ok := fun k => k < wr.heap.size) _ wr.heap.size (.tmp 41) (.tmp 42) 22 5 i0 (.int .u8 0) 1 1 ?_ ?_ Tryd.underlying22 hi hz0 hz1 hz2 rfl ?_ ?_ _ 0 [] ?_ HZr.out A a.length ca (bvs a) ?_ ?_ (HAr.out.below (below_drewN HBz.out _)) (bvs_one _) ?_ ?_ ?_
              focus (first | rfl | go_simp)
              focus rfl
              focus omega
              focus omega
              focus rfl
              focus rfl
              focus simp
              focus omega
              focus simp
              intro v2 w2 hown2 hg2
              have hown3 : w2.ownsRow wr.heap.size 5 1 v2 a.length (bvs a) := by simpa using hown2
              obtain ⟨A5, c5, rfl, _, _⟩ := own_slice hown3
              have HB2 := Lib.hid (show Below wr.heap.size wr w2 from hg2.below (below_drewN HBz.out _) (by simp) (own_base HZr.out))
              have HO2 := Lib.hid hown3
              clear hown2 hg2 hown3))
        all_goals (
          have HB7 := Lib.hid ((HB0.out.trans (HBe.out.mono HB0.out.size)).trans (HB6.out.mono (Nat.le_trans HB0.out.size HBe.out.size)))
          go_wp2_with fail
          go_ret
          exact ⟨rfl, HB7.out⟩)
  · have t1 : (20000 : Int) < (a.length : Int) := by omega
    go_enter Tryd.func9, Tryd.ntmps9
    go_wp2_with fail
    refine (alive_any w HRo.out).mono ?_
    rintro e w0 ⟨rfl, hb0⟩
    have HB0 := Lib.hid hb0
    clear hb0
    go_wp2_with fail
    go_ret
    exact ⟨rfl, HB0.out⟩
end Go.Proofs.YtlhoicbgahnagaaDoor
