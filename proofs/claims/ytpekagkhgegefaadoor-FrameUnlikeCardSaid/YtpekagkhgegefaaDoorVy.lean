/- Walks of package frame, third part: Layout. -/
import Derived.Test.YtpekagkhgegefaaDoorVx
set_option linter.unusedVariables false
set_option linter.unusedSimpArgs false
set_option linter.unnecessarySimpa false
namespace Go.Proofs.YtpekagkhgegefaaDoor
open Go.RowKit

def strOf (b : Bs) : ByteArray := ⟨b.toArray⟩
theorem run_letter (x : Nat) (hx : x < 9) (w : World) : (Instr.index 9 (.string ⟨#[113, 113, 119, 119, 98, 116, 116, 102, 114]⟩) (.int .i64 (x : Int))).run Tryd.prog w = .ok (.int .u8 (letterF x).toNat) w := by
  rcases nine hx with h | h | h | h | h | h | h | h | h <;> subst h <;> kernel_rfl
theorem run_letterS (x : Nat) (hx : x < 9) (w : World) : (convert 5 9 (.int .u8 ((letterF x).toNat : Int))).run Tryd.prog w = .ok (.string ⟨#[letterF x]⟩) w := by
  rcases nine hx with h | h | h | h | h | h | h | h | h <;> subst h <;> kernel_rfl
theorem strOf_snoc (b : Bs) (x : UInt8) : strOf b ++ (⟨#[x]⟩ : ByteArray) = strOf (b ++ [x]) := by
  apply ByteArray.ext
  show (strOf b ++ (⟨#[x]⟩ : ByteArray)).data = _
  rw [ByteArray.data_append]
  simp [strOf]
def LayoutP (k : Int) (w : World) (e : Ending) (w' : World) : Prop := e = .returned (.string (strOf (layoutF k))) ∧ Below w.heap.size w w'
set_option maxHeartbeats 800000 in
theorem layout_any (k : Int) (w : World) : Calls Tryd.prog 16 #[.int .i64 k] w (LayoutP k w) := by
  have h9 := shape_lt k
  have hsh := shape_any k w
  have hl3 : (shapeF k).length ≤ 3 := by have := layout_len k; simpa [layoutF] using this
  have hlen : (layoutF k).length = (shapeF k).length := by simp [layoutF]
  have hget : ∀ j (h : j < (shapeF k).length), (layoutF k).take (j + 1) = (layoutF k).take j ++ [letterF (shapeF k)[j]] := fun j h => by
    rw [List.take_succ_eq_append_getElem (by rw [hlen]; exact h)]
    simp [layoutF]
  unfold LayoutP
  generalize layoutF k = L at *
  generalize shapeF k = l at *
  have H9 := Lib.hid h9
  have HL := Lib.hid hlen
  have HG := Lib.hid hget
  have HS := Lib.hid hsh
  clear h9 hlen hsh hget
  go_enter Tryd.func16, Tryd.ntmps16
  go_wp2_with fail
  refine HS.out.mono ?_
  rintro e w1 ⟨hb, A, rfl, _, _, hR⟩
  have HB := Lib.hid hb
  have HR := Lib.hid hR
  clear hb hR HS
  go_wp2_with fail
  go_loop [3, 9] (fun o i => ∃ j : Nat, j ≤ l.length ∧ i = .int .i64 j ∧ o = .string (strOf (L.take j))) (fun _ i => l.length - (intOf i).toNat)
  case atStart => exact ⟨0, Nat.zero_le _, rfl, rfl⟩
  case round =>
    obtain ⟨j, hj, rfl, rfl⟩ := hrel
    by_cases hlt : j < l.length
    · obtain ⟨ad, rfl, hbk, hc⟩ := HR.out (by intro e; rw [List.map_eq_nil_iff] at e; rw [e] at hlt; simp at hlt)
      have hcell := hc j (natV l[j]) (by simp [hlt])
      have hx9 := H9.out l[j] (List.getElem_mem hlt)
      have hix := run_letter l[j] hx9
      have hcv := run_letterS l[j] hx9
      have HSn := Lib.hid (strOf_snoc (L.take j) (letterF l[j]))
      have HT := Lib.hid (HG.out j hlt)
      clear hc
      unfold natV at hcell
      generalize l[j] = x at *
      generalize letterF x = y at *
      have hsz : (strOf (L.take j)).size ≤ 3 := by
        have h1 : (strOf (L.take j)).size = (L.take j).length := by simp [strOf, ByteArray.size]
        have h2 : (L.take j).length ≤ L.length := List.length_take_le' _ _
        rw [HL.out] at h2
        omega
      have i0 : (0 : Int) ≤ (j : Int) := by omega
      have i1 : (j : Int) < (l.length : Int) := by omega
      go_wp2_with fail
      go_round
      case rel => exact ⟨j + 1, by omega, by go_num, by rw [HT.out, ← HSn.out]⟩
      case measure => simp [intOf]; omega
    · have HE := Lib.hid (show L.take j = L from List.take_of_length_le (by rw [HL.out]; omega))
      go_wp2_with fail
      go_ret
      exact ⟨by rw [HE.out]; rfl, HB.out⟩
end Go.Proofs.YtpekagkhgegefaaDoor
