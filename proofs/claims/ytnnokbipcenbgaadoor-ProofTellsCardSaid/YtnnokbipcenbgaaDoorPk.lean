/- Statements of layer 10: what they share: a case in memory, long, alive. -/
import Derived.Test.YtnnokbipcenbgaaDoorPj
import Derived.Lib.SlBytesConst
import Derived.LaidEql
set_option linter.unusedVariables false
set_option linter.unusedSimpArgs false
set_option linter.unnecessarySimpa false
namespace Go.Proofs.YtnnokbipcenbgaaDoor
open Go.RowKit

theorem infoErr : (Tryd.prog.info? 113).map (fun i => i.comparable) = some true := by kernel_rfl
theorem infoErrS : (Tryd.prog.info? 130).map (fun i => i.size) = some 1 := by kernel_rfl
theorem run_err_same (a : Addr) (w : World) : (binOp .eql 27 (.iface 113 (.pointer (some a))) (.iface 113 (.pointer (some a)))).run Tryd.prog w = .ok (.bool true) w := by
  obtain ⟨i, hi, hc⟩ := Option.map_eq_some_iff.1 infoErr
  obtain ⟨j, hj, hs⟩ := Option.map_eq_some_iff.1 infoErrS
  exact run_eql_iface_ptr_same w a Tryd.underlying27 Tryd.underlying113 hi hc hj
/-- The five cells of a case. -/
structure CaseC (W : World) (g : Nat) (v0 v1 v2 v3 v4 : Value) : Prop where
  c0 : W.cell? ⟨g, 0, none⟩ = some v0
  c1 : W.cell? ⟨g, 1, none⟩ = some v1
  c2 : W.cell? ⟨g, 2, none⟩ = some v2
  c3 : W.cell? ⟨g, 3, none⟩ = some v3
  c4 : W.cell? ⟨g, 4, none⟩ = some v4
theorem CaseC.on {w w' : World} {g : Nat} {v0 v1 v2 v3 v4 : Value} (h : CaseC w g v0 v1 v2 v3 v4) (hg : g < w.heap.size) (hb : Below w.heap.size w w') : CaseC w' g v0 v1 v2 v3 v4 :=
  ⟨cell_on h.c0 hg hb, cell_on h.c1 hg hb, cell_on h.c2 hg hb, cell_on h.c3 hg hb, cell_on h.c4 hg hb⟩
theorem CaseC.box (w : World) (v0 v1 v2 v3 v4 : Value) (t : TypeId) : CaseC (w.alloc (.cells #[v0, v1, v2, v3, v4] t)) w.heap.size v0 v1 v2 v3 v4 := by
  constructor <;> simp only [World.cell?, heap_alloc_new] <;> rfl
def LongP (w : World) (a b c d : Nat) (e : Ending) (w' : World) : Prop := ∃ v : Bool, e = .returned (.bool v) ∧ (v = false → a ≤ 3000 ∧ b ≤ 3000 ∧ c ≤ 3000 ∧ d ≤ 3000) ∧ Below w.heap.size w w'
set_option maxRecDepth 8000 in
set_option maxHeartbeats 800000 in
theorem long_any (w : World) (K N R : Option Addr) (a b d ka kb kd : Nat) (s : ByteArray) (n : Int) (ha : a ≤ 9223372036854775807) (hb : b ≤ 9223372036854775807) (hs : s.size ≤ 9223372036854775807) (hd : d ≤ 9223372036854775807) :
    Calls Tryd.prog 8 #[.agg #[.slice K a ka, .slice N b kb, .string s, .int .i64 n, .slice R d kd]] w (LongP w a b s.size d) := by
  have hbx := below_box w (Obj.cells #[.slice K a ka, .slice N b kb, .string s, .int .i64 n, .slice R d kd] 24)
  have HB := Lib.hid hbx
  clear hbx
  generalize hz : s.size = z at *
  have HZ := Lib.hid hz
  by_cases h1 : a ≤ 3000
  · have k1 : ¬ (3000 : Int) < (a : Int) := by omega
    by_cases h2 : b ≤ 3000
    · have k2 : ¬ (3000 : Int) < (b : Int) := by omega
      by_cases h3 : z ≤ 3000
      · have k3 : ¬ (3000 : Int) < (z : Int) := by omega
        by_cases h4 : d ≤ 3000
        · have k4 : ¬ (3000 : Int) < (d : Int) := by omega
          go_enter Tryd.func8, Tryd.ntmps8
          go_wp2_with fail
          go_ret
          exact ⟨false, rfl, fun _ => ⟨h1, h2, h3, h4⟩, HB.out⟩
        · have k4 : (3000 : Int) < (d : Int) := by omega
          go_enter Tryd.func8, Tryd.ntmps8
          go_wp2_with fail
          go_ret
          exact ⟨true, rfl, by simp, HB.out⟩
      · have k3 : (3000 : Int) < (z : Int) := by omega
        go_enter Tryd.func8, Tryd.ntmps8
        go_wp2_with fail
        go_ret
        exact ⟨true, rfl, by simp, HB.out⟩
    · have k2 : (3000 : Int) < (b : Int) := by omega
      go_enter Tryd.func8, Tryd.ntmps8
      go_wp2_with fail
      go_ret
      exact ⟨true, rfl, by simp, HB.out⟩
  · have k1 : (3000 : Int) < (a : Int) := by omega
    go_enter Tryd.func8, Tryd.ntmps8
    go_wp2_with fail
    go_ret
    exact ⟨true, rfl, by simp, HB.out⟩
/-! ### Open of a ticket -/
theorem ticketB_front (key who : Bs) (u : Nat) : (ticketB key who u).take 8 = be u 8 := by
  unfold ticketB
  rw [List.take_append_of_le_length (by rw [be_length]; omega), List.take_of_length_le (by rw [be_length]; omega)]
theorem ticketB_num (key who : Bs) (u : Nat) (hu : u ≤ 1099511627776) : num ((ticketB key who u).take 8) = u := by
  rw [ticketB_front, num_be]
  exact Nat.mod_eq_of_lt (Nat.lt_of_le_of_lt hu (by decide))
theorem openR_ticket (key who : Bs) (u : Nat) (hk : secretOk key = true) (hw : whoOk who = true) (hu : u ≤ 1099511627776) : openR key who (ticketB key who u) = .ok u := by
  unfold openR
  rw [if_pos ⟨hk, hw⟩, ticketB_num _ _ _ hu, if_pos ⟨ticketB_len _ _ _, hu, rfl⟩]
def keyL : Bs := [107, 101, 121]
theorem ticket_ne : ticketB keyL [98] 7 ≠ ticketB keyL [97] 7 := by decide +kernel
theorem openR_other : openR keyL [98] (ticketB keyL [97] 7) = .error .proof := by
  unfold openR
  rw [if_pos (by decide), ticketB_num _ _ _ (by decide), if_neg fun h => ticket_ne h.2.2.symm]
def OkPost10 (w : World) (e : Ending) (w' : World) : Prop := e = .returned (.bool true) ∧ Below w.heap.size w w'
set_option maxRecDepth 8000 in
set_option maxHeartbeats 1600000 in
theorem alive10 (es : Er → Addr) (w : World) (hE : PEnv w es) : Calls Tryd.prog 7 #[] w (OkPost10 w) := by
  have kc := fun (w : World) (C : Array Value) (n c : Nat) => Lib.run_convert_bytes_const (P := Tryd.prog) w 22 5 C n c Tryd.underlying22 Tryd.underlying5
  obtain ⟨w1, hw1⟩ : ∃ W, W = w.alloc (.cells (bvs keyL).toArray 5 (3, 4)) := ⟨_, rfl⟩
  have hb1 : Below w.heap.size w w1 := by rw [hw1]; exact below_box _ _
  have hk1 : RdC (· < w1.heap.size) w1 (some ⟨w.heap.size, 0, none⟩) (bvs keyL) := by
    rw [hw1]
    exact fun _ => ⟨_, rfl, by simp, World.news_of_block (cs := (bvs keyL).toArray) (t := 5) (fr := (3, 4)) (heap_alloc_new _ _)⟩
  have hE1 := hE.step hb1
  have ht1 := Ticket_any es w1 (some ⟨w.heap.size, 0, none⟩) 3 keyL ⟨#[97]⟩ 7 hE1 hk1 (Nat.le_refl _)
  rw [show ticketR keyL (⟨#[97]⟩ : ByteArray).data.toList 7 = .ok (ticketB keyL [97] 7) from rfl] at ht1
  have hdl := ticketB_len keyL [97] 7
  have ho1 := openR_ticket keyL [97] 7 (by decide) (by decide) (by decide)
  have ho2 := openR_other
  generalize ticketB keyL [97] 7 = D at *
  have HW1 := Lib.hid hw1
  have HB1 := Lib.hid hb1
  have HK1 := Lib.hid hk1
  have HE1 := Lib.hid hE1
  have HDl := Lib.hid hdl
  have HO1 := Lib.hid ho1
  have HO2 := Lib.hid ho2
  have HT1 := Lib.hid ht1
  have hee := run_err_same
  clear hw1 hb1 hk1 hE1 hE hdl ho1 ho2 ht1
  go_enter Tryd.func7, Tryd.ntmps7
  go_wp2_with fail
  rw [show (w.alloc (Obj.cells #[.int .u8 107, .int .u8 101, .int .u8 121] 5 (3, 4))) = w1 from HW1.out.symm]
  refine HT1.out.mono ?_
  rintro e w2 ⟨hb2, v, rfl, hv⟩
  unfold IsRow at hv
  rw [HDl.out] at hv
  obtain ⟨A, c, rfl, hc, _⟩ := own_slice hv
  have hr2 := (RdC.of_own hv).mono (ok' := (· < w2.heap.size)) fun _ h => h.2
  have HR2 := Lib.hid hr2
  have HB2 := Lib.hid hb2
  have hop := Open_any es w2 (some ⟨w.heap.size, 0, none⟩) A 3 c keyL D ⟨#[97]⟩ (HE1.out.step hb2) (HK1.out.step hb2) (Nat.le_refl _) hr2 (by rw [HDl.out]; exact hc)
  rw [show (⟨#[97]⟩ : ByteArray).data.toList = [97] from rfl, HO1.out, HDl.out] at hop
  have HOp := Lib.hid hop
  clear hv hb2 hr2 hop
  go_wp2_with fail
  refine HOp.out.mono ?_
  rintro e w3 ⟨hb3, rfl⟩
  have HB3 := Lib.hid (below_on HB2.out hb3)
  have hop2 := Open_any es w3 (some ⟨w.heap.size, 0, none⟩) A 3 c keyL D ⟨#[98]⟩ (HE1.out.step HB3.out) (HK1.out.step HB3.out) (Nat.le_refl _) (HR2.out.step hb3) (by rw [HDl.out]; exact hc)
  rw [show (⟨#[98]⟩ : ByteArray).data.toList = [98] from rfl, HO2.out, HDl.out] at hop2
  have HOp2 := Lib.hid hop2
  clear hb3 hop2
  go_wp2_with fail
  refine HOp2.out.mono ?_
  rintro e w4 ⟨hb4, rfl⟩
  have HB4 := Lib.hid (below_on HB3.out hb4)
  have g4 := (HE1.out.step HB4.out).proof.cell
  clear hb4
  unfold errV at *
  go_wp2_with fail
  go_ret
  exact ⟨rfl, HB1.out.trans (HB4.out.mono HB1.out.size)⟩
end Go.Proofs.YtnnokbipcenbgaaDoor
