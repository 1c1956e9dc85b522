/- FieldsGrow's walk. -/
import Derived.Test.YtkencpfmbcjppaaDoorLa
set_option linter.unusedVariables false
set_option linter.unusedSimpArgs false
set_option linter.unnecessarySimpa false
namespace Go.Proofs.YtkencpfmbcjppaaDoor
open Go.RowKit
attribute [local go_sem] run_store_flt cellV errV

theorem decCell_more {l : UInt8} {b more : Bs} {c : Cell} {n : Nat} (h : decCell l b = .ok (c, n)) : decCell l (b ++ more) = .ok (c, n) := by
  unfold decCell at h ⊢
  split at h
  · cases h
  · rename_i h0
    have e1 : (b ++ more).take (width l) = b.take (width l) := List.take_append_of_le_length (by omega)
    rw [if_neg (by rw [List.length_append]; omega), e1]
    split at h
    · rename_i h1; rw [if_pos h1]; exact h
    · rename_i h1
      rw [if_neg h1]
      split at h
      · rename_i h2
        rw [if_pos h2]
        split at h
        · cases h
        · rename_i h3
          rw [if_neg (by rw [List.length_append]; omega), List.drop_append_of_le_length (by omega), List.take_append_of_le_length (by rw [List.length_drop]; omega)]
          exact h
      · rename_i h2
        rw [if_neg h2]
        exact h
theorem someAt_le : ∀ (ls b : Bs), (someAt ls b).1 ≤ ls.length
  | [], b => by simp [someAt]
  | l :: ls, b => by
    unfold someAt
    split
    · simp
    · cases h : decCell l b with
      | error e => simp
      | ok q =>
        have := someAt_le ls (b.drop q.2)
        simp only [List.length_cons]
        omega
theorem someAt_more : ∀ (ls b more : Bs), (someAt ls b).1 ≤ (someAt ls (b ++ more)).1
  | [], b, more => by simp [someAt]
  | l :: ls, b, more => by
    unfold someAt
    split
    · simp
    · cases h : decCell l b with
      | error e => simp
      | ok q =>
        obtain ⟨c, n⟩ := q
        rw [decCell_more h]
        have hn := decCell_le h
        simp only
        rw [List.drop_append_of_le_length hn]
        have := someAt_more ls (b.drop n) more
        omega
set_option maxHeartbeats 1000000 in
theorem grow_walk (es : Er → Addr) (w : World) (s : ByteArray) (A A2 : Option Addr) (c c2 : Nat) (b b2 : Bs) (hE : E5 w.heap.size w es) (hs : s.size ≤ 2000000) (hb : b.length ≤ 2000000) (hb2 : b2.length ≤ 2000000)
    (hc : b.length ≤ c) (hR : RdC (· < w.heap.size) w A (bvs b)) (hR2 : RdC (· < w.heap.size) w A2 (bvs b2)) :
    Calls Tryd.prog 10 #[.string s, .slice A b.length c, .slice A2 b2.length c2] w (OkPost w) := by
  obtain ⟨i0, hi, hz0, hz1, hz2⟩ := info_parts infoU8
  have hle1 := someAt_more s.data.toList b b2
  have hle2 := someAt_le s.data.toList (b ++ b2)
  rw [show s.data.toList.length = s.size from Array.length_toList] at hle2
  go_enter Tryd.func10, Tryd.ntmps10
  go_wp2_with fail
  refine (alive_any es w hE).mono ?_
  rintro e w0 ⟨rfl, hb0⟩
  have HE0 := Lib.hid (hE.step hb0)
  have HB0 := Lib.hid hb0
  have HR0 := Lib.hid (hR.step hb0)
  have HR20 := Lib.hid (hR2.step hb0)
  clear hb0 hE hR hR2
  go_wp2_with fail
  refine (some_any es w0 s A b.length c b rfl HE0.out HR0.out (by omega) hc (by omega)).mono ?_
  rintro e w1 ⟨rfl, hb1⟩
  have HE1 := Lib.hid (HE0.out.step hb1)
  have HB1 := Lib.hid (HB0.out.trans (hb1.mono HB0.out.size))
  have HR1 := Lib.hid (HR0.out.step hb1)
  have HR21 := Lib.hid (HR20.out.step hb1)
  clear hb1 HE0 HB0 HR0 HR20
  generalize (someAt s.data.toList b).1 = n1 at *
  have hz := World.ownsRow_lit (base := w1.heap.size) (e := 5) (size := 1) w1 #[] 0 (Nat.le_refl _) (by simp [maxLen]) (by simp)
  have HZ := Lib.hid hz
  have HA : Below w1.heap.size w1 (w1.alloc (.cells #[] 5)) := (Below.refl _ _).alloc (Nat.le_refl _) _
  have HAl := Lib.hid HA
  clear hz HA
  go_wp2_with (first
    | (at_builtin; refine wpList_appS (ok := fun b => b < w1.heap.size) _ w1.heap.size (.tmp 21) (.tmp 22) 23 5 i0 (.int .u8 0) 1 1 rfl (by rfl) Tryd.underlying23 hi hz0 hz1 hz2 rfl (by omega) (by omega) _ 0 [] (by rfl) HZ.out A b.length c (bvs b) (by rfl) (by simp)
        (HR1.out.below HAl.out) (bvs_one b) (by omega) (by simp) ?_; intro v1 w2 hown1 hg1; have HB2 := Lib.hid (show Below w1.heap.size w1 w2 from hg1.below HAl.out (by simp) (own_base HZ.out)); have HO1 := Lib.hid hown1; clear hg1 hown1)
    | (at_builtin; refine wpList_appS (ok := fun b => b < w1.heap.size) _ w1.heap.size (.tmp 23) (.tmp 24) 23 5 i0 (.int .u8 0) 1 1 rfl (by rfl) Tryd.underlying23 hi hz0 hz1 hz2 rfl (by omega) (by omega) _ (0 + b.length) ([] ++ bvs b) (by rfl) HO1.out A2 b2.length c2 (bvs b2) (by rfl) (by simp)
        (HR21.out.below HB2.out) (bvs_one b2) (by omega) (by exact HB2.out.size) ?_; intro v2 w3 hown2 hg2))
  have hb3w : Below w1.heap.size w1 w3 := hg2.below HB2.out HB2.out.size (own_base HO1.out)
  have hown3 : w3.ownsRow w1.heap.size 5 1 v2 (b ++ b2).length (bvs (b ++ b2)) := by
    rw [bvs_append, List.length_append]
    simpa using hown2
  obtain ⟨A3, c3, rfl, hc3, _⟩ := own_slice hown3
  have hE3 := HE1.out.step hb3w
  have hR3 := (RdC.of_own hown3).mono (ok' := (· < w3.heap.size)) (fun _ h => h.2)
  have hlen : (b ++ b2).length = b.length + b2.length := List.length_append
  have HS := Lib.hid (some_any es w3 s A3 (b ++ b2).length c3 (b ++ b2) rfl hE3 hR3 (by omega) hc3 (by omega))
  have HB3 := Lib.hid (show Below w.heap.size w w3 from HB1.out.trans (hb3w.mono HB1.out.size))
  clear hown2 hown3 hg2 hb3w hE3 hR3 HE1 HR1 HR21 HB2 HO1 HZ HAl hlen
  go_wp2_with (go_at_call 21; refine HS.out.mono ?_; rintro e w4 ⟨rfl, hb4⟩)
  generalize (someAt s.data.toList (b ++ b2)).1 = n2 at *
  have HB4 := Lib.hid (show Below w.heap.size w w4 from HB3.out.trans (hb4.mono HB3.out.size))
  clear hb4
  go_wp2
  go_ret
  refine ⟨?_, HB4.out⟩
  have h1 : ((n1 : Int) ≤ (n2 : Int)) := by omega
  have h2 : ((n2 : Int) ≤ (s.size : Int)) := by omega
  simp [h1, h2]
end Go.Proofs.YtkencpfmbcjppaaDoor
