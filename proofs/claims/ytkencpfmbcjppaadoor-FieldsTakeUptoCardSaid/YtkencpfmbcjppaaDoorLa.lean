/- Walks of the statements of layer 1 that speak of the program alone: alive, FieldsFloats. -/
import Derived.Test.YtkencpfmbcjppaaDoorFe
set_option linter.unusedVariables false
set_option linter.unusedSimpArgs false
set_option linter.unnecessarySimpa false
namespace Go.Proofs.YtkencpfmbcjppaaDoor
open Go.RowKit
attribute [local go_sem] run_store_flt cellV errV

def aliveCells : List Cell := [⟨1, 0, ⟨#[]⟩⟩, ⟨258, 0, ⟨#[]⟩⟩, ⟨0, 0, ⟨#[97, 98]⟩⟩]
theorem alive_enc : encode [98, 104, 116] aliveCells = .ok [1, 1, 2, 2, 97, 98] := by kernel_rfl
theorem alive_dec : decode [104] [1, 2] = .ok [⟨258, 0, ⟨#[]⟩⟩] := by rfl
def OkPost (w : World) (e : Ending) (w' : World) : Prop := e = .returned (.bool true) ∧ Below w.heap.size w w'

set_option maxHeartbeats 1000000 in
theorem alive_any (es : Er → Addr) (w : World) (hE : E5 w.heap.size w es) : Calls Tryd.prog 11 #[] w (OkPost w) := by
  go_enter Tryd.func11, Tryd.ntmps11
  go_wp2_with fail
  have hb0 : Below w.heap.size w (w.alloc (.cells #[.int .i64 1, .float .f64 0, .string ⟨#[]⟩, .int .i64 258, .float .f64 0, .string ⟨#[]⟩, .int .i64 0, .float .f64 0, .string ⟨#[97, 98]⟩] 33)) := (Below.refl _ _).alloc (Nat.le_refl _) _
  have hE0 := hE.step hb0
  have hR0 := RdC.new w #[.int .i64 1, .float .f64 0, .string ⟨#[]⟩, .int .i64 258, .float .f64 0, .string ⟨#[]⟩, .int .i64 0, .float .f64 0, .string ⟨#[97, 98]⟩] 33
  have hc1 := encode_any es _ ⟨#[98, 104, 116]⟩ (some ⟨w.heap.size, 0, none⟩) 3 3 aliveCells rfl hE0 (hR0.mono fun b hb => by simp; omega) (by decide) (by decide) (by decide) (by decide)
  rw [show encode (ByteArray.mk #[98, 104, 116]).data.toList aliveCells = .ok [1, 1, 2, 2, 97, 98] from alive_enc] at hc1
  have HC1 := Lib.hid hc1
  have HE := Lib.hid hE
  have HB0 := Lib.hid hb0
  have HE0 := Lib.hid hE0
  clear hE hb0 hE0 hR0 hc1
  refine HC1.out.mono ?_
  rintro e w1 ⟨hb1, v1, rfl, hown⟩
  obtain ⟨A1, c1, rfl, hc1, _⟩ := own_slice hown
  have hbB := HB0.out.trans (hb1.mono HB0.out.size)
  have hE1 := HE0.out.step hb1
  have HX := Lib.hid hown
  have HB1 := Lib.hid hbB
  have HE1 := Lib.hid hE1
  clear hb1 hown hbB hE1 HC1 HE0 HB0
  go_wp2_with fail
  have hb2 : Below w1.heap.size w1 (w1.alloc (.cells #[.int .u8 1, .int .u8 2] 5)) := (Below.refl _ _).alloc (Nat.le_refl _) _
  have hR2 := RdC.new w1 #[.int .u8 1, .int .u8 2] 5
  have hc2 := decode_any es _ ⟨#[104]⟩ (some ⟨w1.heap.size, 0, none⟩) 2 2 [1, 2] rfl (HE1.out.step hb2) (hR2.mono fun b hb => by simp; omega) (by decide) (by decide) (by decide)
  rw [show decode (ByteArray.mk #[104]).data.toList [1, 2] = .ok [⟨258, 0, ⟨#[]⟩⟩] from alive_dec] at hc2
  refine hc2.mono ?_
  rintro e w2 ⟨hb3, v2, rfl, hown2⟩
  obtain ⟨A2, c2, rfl, _, _⟩ := own_slice hown2
  clear hc2 hR2
  have hb12 : Below w1.heap.size w1 w2 := hb2.trans (hb3.mono hb2.size)
  have hcv := run_str_of (w := w2) (c := c1) Tryd.underlying23 Tryd.underlying5 Tryd.underlying9 rfl (((RdC.of_own HX.out).mono (fun _ h => h.2)).below hb12)
  obtain ⟨ad, rfl, _, hcell, _, _⟩ := cells_at ((RdC.of_own hown2).mono (fun _ h => h.2)) 0 (by simp)
  simp only [Nat.zero_mul, Addr.add, if_true] at hcell
  have HF := Lib.hid (show Below w.heap.size w w2 from HB1.out.trans (hb12.mono HB1.out.size))
  clear hb2 hb3 hb12 hown2 HX HB1 HE1
  simp only [List.length_cons, List.length_nil] at *
  go_wp2
  go_ret
  exact ⟨rfl, HF.out⟩

theorem floats_enc (u : Nat) : encode [102] [⟨0, u, ⟨#[]⟩⟩] = .ok (be u 8) := by
  have hk : known [102] = true := by decide
  unfold encode
  rw [if_neg (by rw [hk]; simp)]
  simp [encAll, encCell, Except.bind, Except.map]
theorem floats_dec (u : Nat) (h : u < 18446744073709551616) : decode [102] (be u 8) = .ok [⟨0, u, ⟨#[]⟩⟩] := by
  have hw : width 102 = 8 := rfl
  have h1 : (be u 8).take 8 = be u 8 := List.take_of_length_le (by simp)
  have h2 : (be u 8).drop 8 = [] := List.drop_eq_nil_of_le (by simp)
  have h3 : num (be u 8) = u := by rw [num_be]; exact Nat.mod_eq_of_lt (by omega)
  unfold decode
  rw [if_neg (by decide)]
  simp [decAll, decCell, hw, h1, h2, h3, Except.bind, Except.map]
theorem num_add (b : Bs) (k : Nat) (h : k < b.length) (h8 : k < 8) : IntKind.u64.wrap (IntKind.u64.wrap ((num (b.take k) : Int) * 256) + IntKind.u64.wrap ((b[k]'h).toNat : Int)) = ((num (b.take (k + 1)) : Nat) : Int) := by
  have hlt := num_lt (b.take k)
  rw [List.length_take, Nat.min_eq_left (by omega)] at hlt
  have h7 : 256 ^ k ≤ 256 ^ 7 := Nat.pow_le_pow_right (by omega) (by omega)
  have hx := (b[k]'h).toNat_lt
  rw [List.take_succ_eq_append_getElem h, num_snoc]
  rw [IntWalk.u64_in ((num (b.take k) : Int) * 256) (by omega), IntWalk.u64_in ((b[k]'h).toNat : Int) (by omega), IntWalk.u64_in _ (by omega)]
  omega
set_option maxHeartbeats 1000000 in
theorem floats_walk (es : Er → Addr) (w : World) (u : Nat) (hu : u < 18446744073709551616) (hE : E5 w.heap.size w es) : Calls Tryd.prog 5 #[.int .u64 u] w (OkPost w) := by
  have hff := run_f64from
  have hfb := run_f64bits
  go_enter Tryd.func5, Tryd.ntmps5
  go_wp2_with fail
  refine (alive_any es w hE).mono ?_
  rintro e w0 ⟨rfl, hb0⟩
  have HE0 := Lib.hid (hE.step hb0)
  have HB0 := Lib.hid hb0
  clear hb0 hE
  go_wp2_with fail
  have hb1 : Below w0.heap.size w0 (w0.alloc (.cells #[.int .i64 0, .float .f64 u, .string ⟨#[]⟩] 33)) := (Below.refl _ _).alloc (Nat.le_refl _) _
  have hR1 := RdC.new w0 #[.int .i64 0, .float .f64 u, .string ⟨#[]⟩] 33
  have hc1 := encode_any es _ ⟨#[102]⟩ (some ⟨w0.heap.size, 0, none⟩) 1 1 [⟨0, u, ⟨#[]⟩⟩] rfl (HE0.out.step hb1) (hR1.mono fun b hb => by simp; omega) (by decide) (by unfold maxLen; simp) (by rw [show cost [⟨0, u, ⟨#[]⟩⟩] = 8 from rfl]; omega) (by simp)
  rw [show encode (ByteArray.mk #[102]).data.toList [⟨0, u, ⟨#[]⟩⟩] = .ok (be u 8) from floats_enc u] at hc1
  refine hc1.mono ?_
  rintro e w1 ⟨hb2, v1, rfl, hown⟩
  obtain ⟨A1, c1, rfl, hcc, _⟩ := own_slice hown
  have hb01 : Below w0.heap.size w0 w1 := hb1.trans (hb2.mono hb1.size)
  have HE1 := Lib.hid (HE0.out.step hb01)
  have HX := Lib.hid hown
  have HB1 := Lib.hid (show Below w.heap.size w w1 from HB0.out.trans (hb01.mono HB0.out.size))
  clear hc1 hR1 hb1 hb2 hb01 hown
  rw [be_length] at *
  go_wp2_with fail
  have hR2 := (RdC.of_own HX.out).mono (ok' := (· < w1.heap.size)) (fun _ h => h.2)
  have hc2 := decode_any es _ ⟨#[102]⟩ A1 8 c1 (be u 8) (by simp) HE1.out hR2 (by decide) (by simpa using hcc) (by simp)
  rw [show decode (ByteArray.mk #[102]).data.toList (be u 8) = .ok [⟨0, u, ⟨#[]⟩⟩] from floats_dec u hu] at hc2
  refine hc2.mono ?_
  rintro e w2 ⟨hb3, v2, rfl, hown2⟩
  obtain ⟨A2, c2, rfl, _, _⟩ := own_slice hown2
  obtain ⟨ad, rfl, _, _, hcell, _⟩ := cells_at ((RdC.of_own hown2).mono (ok' := (· < w2.heap.size)) (fun _ h => h.2)) 0 (by simp)
  simp only [Nat.zero_mul, Addr.add, if_true] at hcell
  have HR := Lib.hid (hR2.step hb3)
  have HF := Lib.hid (show Below w.heap.size w w2 from HB1.out.trans (hb3.mono HB1.out.size))
  clear hc2 hR2 hown2 HX HB1 HE1 HE0 HB0 hb3
  simp only [List.length_cons, List.length_nil] at *
  go_wp2_with fail
  have hbl : (be u 8).length = 8 := by simp
  have HBL := Lib.hid hbl
  clear hbl
  go_loop [7, 43] (fun x i => ∃ k : Nat, k ≤ 8 ∧ i = .int .i64 k ∧ x = .int .u64 (num ((be u 8).take k))) (fun _ i => 8 - (intOf i).toNat)
  case atStart => exact ⟨0, by omega, rfl, rfl⟩
  case round =>
    obtain ⟨k, hk, rfl, rfl⟩ := hrel
    by_cases hlt : k < 8
    · obtain ⟨ad1, rfl, _, hcell1⟩ := bytes_at HR.out k (by rw [HBL.out]; exact hlt)
      have hk1 : (k : Int) < 8 := by omega
      have hsn := num_add (be u 8) k (by rw [HBL.out]; exact hlt) hlt
      generalize num ((be u 8).take k) = x at *
      generalize (be u 8)[k]'(by rw [HBL.out]; exact hlt) = y at *
      have HS := Lib.hid hsn
      clear hsn
      go_wp2
      go_round
      case rel => exact ⟨k + 1, by omega, by go_num, by rw [HS.out]⟩
      case measure => simp [intOf]; omega
    · obtain rfl : 8 = k := by omega
      have hfin : num ((be u 8).take 8) = u := by rw [List.take_of_length_le (by rw [HBL.out]; omega), num_be]; exact Nat.mod_eq_of_lt (by omega)
      rw [hfin]
      clear hfin
      go_wp2
      go_ret
      exact ⟨rfl, HF.out⟩
end Go.Proofs.YtkencpfmbcjppaaDoor
