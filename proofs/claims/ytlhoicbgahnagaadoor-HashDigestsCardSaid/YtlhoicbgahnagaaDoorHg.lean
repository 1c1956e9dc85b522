/- Walk of package hash: Hex. -/
import Derived.Test.YtlhoicbgahnagaaDoorHx
set_option linter.unusedVariables false
set_option linter.unusedSimpArgs false
set_option linter.unnecessarySimpa false
namespace Go.Proofs.YtlhoicbgahnagaaDoor
open Go.RowKit

def HexP (w : World) (b : Bs) (e : Ending) (w' : World) : Prop := e = .returned (.string ⟨(hex b).toArray⟩) ∧ Below w.heap.size w w'
theorem hex_length : ∀ b : Bs, (hex b).length = 2 * b.length
  | [] => rfl
  | x :: b => by
    have := hex_length b
    unfold hex at *
    rw [List.flatMap_cons, List.length_append, this]
    simp; omega
theorem hex_append (a b : Bs) : hex (a ++ b) = hex a ++ hex b := by simp [hex]
theorem hex_snoc (b : Bs) (t : Nat) (h : t < b.length) : hex (b.take (t + 1)) = hex (b.take t) ++ [hexDigit ((b.getD t 0).toNat / 16), hexDigit ((b.getD t 0).toNat % 16)] := by
  rw [List.take_succ_eq_append_getElem h, hex_append]
  simp [hex, h]
theorem and15 (x : Nat) (h : x < 256) : bits .and .u8 (x : Int) 15 = ((x % 16 : Nat) : Int) := by
  have := and8 x 15 h (by omega)
  rw [show ((15 : Nat) : Int) = 15 from rfl] at this
  rw [this, show (15 : Nat) = 2 ^ 4 - 1 from rfl, Nat.and_two_pow_sub_one_eq_mod]
theorem digit_index : ∀ k : Fin 16, (⟨#[48, 49, 50, 51, 52, 53, 54, 55, 56, 57, 97, 98, 99, 100, 101, 102]⟩ : ByteArray)[k.val]? = some (hexDigit k.val) := by decide +kernel
theorem digit_get (i k : Nat) (h : i < (⟨#[48, 49, 50, 51, 52, 53, 54, 55, 56, 57, 97, 98, 99, 100, 101, 102]⟩ : ByteArray).size) (hk : k < 16) (e : i = k) : ((⟨#[48, 49, 50, 51, 52, 53, 54, 55, 56, 57, 97, 98, 99, 100, 101, 102]⟩ : ByteArray)[i]'h).toNat = (hexDigit k).toNat := by
  subst e
  have := digit_index ⟨i, hk⟩
  simp only at this
  rw [getElem?_pos _ i h] at this
  rw [Option.some.inj this]
set_option maxRecDepth 8000 in
set_option maxHeartbeats 2000000 in
theorem hex_any (w : World) (A : Option Addr) (c : Nat) (b : Bs) (hb : b.length ≤ 35184372088832) (hR : RdC (· < w.heap.size) w A (bvs b)) :
    Calls Tryd.prog 19 #[.slice A b.length c] w (HexP w b) := by
  obtain ⟨i0, hi, hz0, hz1, hz2⟩ := info_parts infoU8h
  have j0 : IntKind.i64.wrap (2 * (b.length : Int)) = ((2 * b.length : Nat) : Int) := by rw [show 2 * (b.length : Int) = ((2 * b.length : Nat) : Int) by omega]; exact IntWalk.i64_in _ (by omega)
  have HR := Lib.hid hR
  clear hR
  go_enter Tryd.func19, Tryd.ntmps19
  go_wp2_with (
    at_make
    refine wpList_make_own _ rfl _ _ 22 rfl w.heap.size 5 i0 (.int .u8 0) 1 Tryd.underlying22 hi hz0 hz1 _ _ _ (2 * b.length) rfl rfl (by simp) (by rw [hz2]; omega) (by unfold maxLen; omega) (Nat.le_refl _) ?_
    intro w1 hown hg
    have HO1 := Lib.hid hown
    have HB1 := Lib.hid (show Below w.heap.size w w1 from ⟨hg.os, hg.tape, hg.output, hg.size, fun k hk => hg.block k hk (by simp)⟩)
    clear hown hg)
  go_loopw [3, 12] (fun v i wq => ∃ t : Nat, t ≤ b.length ∧ i = .int .i64 t ∧ wq.ownsRow w.heap.size 5 1 v (2 * t) (bvs (hex (b.take t))) ∧ Below w.heap.size w wq) (fun _ i _ => b.length - (intOf i).toNat)
  case atStart => exact ⟨0, Nat.zero_le _, rfl, HO1.out, HB1.out⟩
  case round =>
    obtain ⟨t, ht, rfl, hown, hbel⟩ := hrel
    by_cases hlt : t < b.length
    · obtain ⟨ad, rfl, _, c1⟩ := (HR.out.below hbel).byte t hlt
      have hsn := hex_snoc b t hlt
      have b1 := (b.getD t 0).toNat_lt
      generalize (b.getD t 0).toNat = x at *
      have hand := and15 x b1
      have j0 : (0 : Int) ≤ (t : Int) := by omega
      have j1 : (t : Int) < (b.length : Int) := by omega
      have HO := Lib.hid hown
      have HB := Lib.hid hbel
      have HSn := Lib.hid hsn
      clear hown hbel hsn
      go_wp2_with fail
      have hrn : ∀ n1 n2 : Nat, n1 = (hexDigit (x / 16)).toNat → n2 = (hexDigit (x % 16)).toNat → RdC (fun k => k = wr.heap.size) ((wr.alloc (.cells #[.int .u8 (n1 : Int), .int .u8 (n2 : Int)] 5 (0, 0))).drew) (some ⟨wr.heap.size, 0, none⟩) (bvs [hexDigit (x / 16), hexDigit (x % 16)]) := by
        rintro n1 n2 rfl rfl
        exact RdC.new wr #[.int .u8 ((hexDigit (x / 16)).toNat : Int), .int .u8 ((hexDigit (x % 16)).toNat : Int)] 5
      have HRn := Lib.hid hrn
      clear hrn
      have hbw : w.heap.size ≤ wr.heap.size := HB.out.size
      go_region_held3 (fun _ => True) (trivial)
        ((refine step_appS _ w.heap.size _ _ 22 5 i0 (.int .u8 0) 1 1 (by rfl) (by rfl) Tryd.underlying22 hi hz0 hz1 hz2 rfl (by omega) (by omega) _ (2 * t) (bvs (hex (b.take t))) (by rfl) (HO.out.alloc _).drew (some ⟨wr.heap.size, 0, none⟩) 2 2 (bvs [hexDigit (x / 16), hexDigit (x % 16)]) (by rfl) (by rfl) (HRn.out _ _ (digit_get _ (x / 16) _ (by omega) (by omega)) (digit_get _ (x % 16) _ (by omega) (by omega))) (bvs_one _) (by omega) (by simp; omega) ?_; intro v3 w3 hown3 hg3))
      all_goals (
        have hbel2 : Below w.heap.size w w3 := hg3.below ((HB.out.alloc hbw _).drew) (by simp; omega) (own_base HO.out)
        have hown4 : w3.ownsRow w.heap.size 5 1 v3 (2 * (t + 1)) (bvs (hex (b.take (t + 1)))) := by
          rw [HSn.out, bvs_append, show 2 * (t + 1) = 2 * t + 2 by omega]
          exact hown3
        have HO4 := Lib.hid hown4
        have HB4 := Lib.hid hbel2
        clear hown3 hg3 hown4 hbel2
        go_wp2_with fail
        exact ⟨⟨t + 1, by omega, by go_num, HO4.out, HB4.out⟩, by simp [intOf]; omega⟩)
    · obtain rfl : t = b.length := by omega
      rw [List.take_length] at hown
      obtain ⟨A3, c3, rfl, _, _⟩ := own_slice hown
      have hcv : (convert 22 9 (.slice A3 (2 * b.length) c3)).run Tryd.prog wr = .ok (.string ⟨(hex b).toArray⟩) wr := run_str_of Tryd.underlying22 Tryd.underlying5 Tryd.underlying9 (hex_length b).symm (RdC.of_own hown)
      have HB4 := Lib.hid hbel
      clear hown hbel
      go_wp2_with fail
      go_ret
      exact ⟨rfl, HB4.out⟩
end Go.Proofs.YtlhoicbgahnagaaDoor
