/- Statements of layer 11: what they share: alive. -/
import Derived.Test.YtipgimmgjdgdeaaDoorJh
set_option linter.unusedVariables false
set_option linter.unusedSimpArgs false
set_option linter.unnecessarySimpa false
namespace Go.Proofs.YtipgimmgjdgdeaaDoor
open Go.RowKit
attribute [local go_sem] run_store_flt

theorem end_lens (s t : Int) : (endF s t).lens := ⟨by show 0 ≤ _; omega, by show 0 ≤ _; omega, by show 0 ≤ _; omega⟩
def ro0 : Ro := ⟨[], 0⟩
def ro1 : Ro := ⟨[endF 1 1], 0⟩
def ro2 : Ro := ⟨[endF 1 1, endF 2 2], 0⟩
def ro3 : Ro := ⟨[endF 2 2], 1⟩
theorem end11 : checkF (endF 1 1) = true := by rw [end_check]; decide
theorem end22 : checkF (endF 2 2) = true := by rw [end_check]; decide
theorem push01 : ro0.push (endF 0 1) = ro1 := rfl
theorem push12 : ro1.push (endF 0 2) = ro2 := rfl
theorem ack23 : ro2.ack 1 = ro3 := rfl
theorem may01 : ro0.may (endF 0 1) = none := by
  have h := (sizeF_in end11).2
  unfold Ro.may
  rw [if_pos ⟨end11, rfl⟩, if_pos]
  show 0 + sizeF (endF 1 1) ≤ 8192
  omega
theorem may12 : ro1.may (endF 0 2) = none := by
  have h := (sizeF_in end11).2
  have h2 := (sizeF_in end22).2
  unfold Ro.may
  rw [if_pos ⟨end22, rfl⟩, if_pos]
  show sizes [endF 1 1] + sizeF (endF 2 2) ≤ 8192
  simp [sizes]
  omega
theorem fine1 : ro1.fine := push01 ▸ Ro.fine.new.push may01
theorem fine2 : ro2.fine := push12 ▸ fine1.push may12
theorem fine3 : ro3.fine := ack23 ▸ fine2.ack (by decide)
theorem take0 : takeR 0 (endF 1 1) = .ok true := by
  unfold takeR
  rw [if_pos ⟨rfl, end11⟩, if_neg (by decide), if_neg (by decide)]
theorem push_end (es : Er → Addr) (M : Nat → Prop) (w : World) (G : Nat) (v : Value) (o o' : Ro) (s t : Int) (hE : REnv w es) (hs : OutAt M w G v o) (hf : o.fine) (hM : ∀ k, w.heap.size ≤ k → M k) (hm : o.may (endF 0 t) = none) (ha : o.as (endF 0 t) = endF s t) (hp : o.push (endF 0 t) = o') :
    Calls Tryd.prog 16 #[.pointer (some ⟨G, 0, none⟩), .agg #[.int .i64 11, .int .i64 0, .int .i64 0, .int .i64 t, .int .i64 0, .int .i64 0, .string ⟨#[]⟩, .string ⟨#[]⟩, .float .f64 0, .slice none 0 0]] w
      (fun e w' => ∃ A c v', e = .returned (.tuple #[.agg #[.int .i64 11, .int .i64 s, .int .i64 0, .int .i64 t, .int .i64 0, .int .i64 0, .string ⟨#[]⟩, .string ⟨#[]⟩, .float .f64 0, .slice A 0 c], .nilIface]) ∧ OutAt M w' G v' o' ∧ Chg (OutS G v) w w' ∧ (cutB v' = cutB v ∨ ∃ b, cutB v' = some b ∧ w.heap.size ≤ b)) := by
  refine (push_any es M w G v o (endF 0 t) none 0 hE hs hf (end_lens _ _) (RdC.nil _ _ _) (by show 0 ≤ _; omega) hM).mono fun e w' h => ?_
  obtain ⟨A, c, v', he, _, h1, h2, h3⟩ := h.ok hm
  rw [ha] at he
  rw [hp] at h1
  exact ⟨A, c, v', he, h1, h2, h3⟩
set_option maxRecDepth 8000 in
set_option maxHeartbeats 6400000 in
theorem alive11 (es : Er → Addr) (w : World) (hE : REnv w es) : Calls Tryd.prog 12 #[] w (OkPost w) := by
  have HE := Lib.hid hE
  have HNo := Lib.hid (newOut_any w)
  have hee := run_err_same
  clear hE
  go_enter Tryd.func12, Tryd.ntmps12
  go_wp2_with fail
  refine HNo.out.mono ?_
  rintro e w1 ⟨rfl, hb1, hs1, ho1⟩
  have HB1 := Lib.hid hb1
  have HO1 := Lib.hid (show OutAt (w.heap.size ≤ ·) w1 w.heap.size (.slice none 0 0) ro0 from ho1)
  have HNi := Lib.hid (newIn_any w1)
  clear hb1 ho1 HNo
  go_wp2_with fail
  refine HNi.out.mono ?_
  rintro e w2 ⟨rfl, hb2, hs2, hi2⟩
  have HB2 := Lib.hid (below_on HB1.out hb2)
  have HO2 := Lib.hid (HO1.out.on hb2)
  have HI2 := Lib.hid hi2
  have HP1 := Lib.hid (push_end es (w.heap.size ≤ ·) w2 w.heap.size (.slice none 0 0) ro0 ro1 1 1 (HE.out.step HB2.out) HO2.out Ro.fine.new (fun k hk => Nat.le_trans HB2.out.size hk) may01 rfl push01)
  clear hb2 hi2 HNi
  go_wp2_with fail
  refine HP1.out.mono ?_
  rintro e w3 ⟨A3, c3, v3, rfl, ho3, hch3, hat3⟩
  have hb3 : Below w.heap.size w w3 := HB2.out.trans (hch3.below HB2.out.size (fun i hi e => by
    rcases e with rfl | e
    · exact Nat.le_refl _
    · cases e))
  have hi3 : InAt w3 w1.heap.size 0 := (hch3.block _ HI2.out.lt (by rintro (e | e); omega; cases e)).trans HI2.out
  have HB3 := Lib.hid hb3
  have HO3 := Lib.hid ho3
  have HI3 := Lib.hid hi3
  obtain ⟨w4, hw4⟩ : ∃ W, W = w3.alloc (Obj.cells #[.int .i64 11, .int .i64 1, .int .i64 0, .int .i64 1, .int .i64 0, .int .i64 0, .string ⟨#[]⟩, .string ⟨#[]⟩, .float .f64 0, .slice A3 0 c3] 33) := ⟨_, rfl⟩
  have hb34 : Below w3.heap.size w3 w4 := by rw [hw4]; exact below_box _ _
  have HW4 := Lib.hid hw4.symm
  have HF4 := Lib.hid (show FrC w4 w3.heap.size (endF 1 1) A3 c3 by rw [hw4]; exact FrC.box w3 (endF 1 1) A3 c3 _)
  have HB4 := Lib.hid (below_on hb3 hb34)
  have HO4 := Lib.hid (ho3.on hb34)
  have hz3 := hch3.size
  have hz4 : w4.heap.size = w3.heap.size + 1 := by rw [hw4]; simp
  have HI4 := Lib.hid (show InAt w4 w1.heap.size 0 from (hb34.block _ hi3.lt).trans hi3)
  have HP2 := Lib.hid (push_end es (w.heap.size ≤ ·) w4 w.heap.size v3 ro1 ro2 2 2 (HE.out.step HB4.out) HO4.out fine1 (fun k hk => Nat.le_trans HB4.out.size hk) may12 rfl push12)
  have hcw3 := HO4.out.ltB
  have HC3 := Lib.hid (show ∀ b, cutB v3 = some b → b ≠ w3.heap.size ∧ b ≠ w1.heap.size from fun b e => by
    have hb := (ho3.ltB b e).2
    rcases hat3 with h | ⟨b', h, hb'⟩
    · rw [h] at e; cases e
    · rw [h] at e; injection e with e; have := HI2.out.lt; omega)
  clear hch3 hat3 ho3 hb3 hi3 hw4 hb34 HP1
  go_wp2_with (rw [HW4.out])
  refine HP2.out.mono ?_
  rintro e w5 ⟨A5, c5, v5, rfl, ho5, hch5, hat5⟩
  have hn5 : ∀ i, i < w4.heap.size → i = w3.heap.size ∨ i = w1.heap.size → w5.heap[i]? = w4.heap[i]? := fun i hi hii => hch5.block i hi (by
    rintro (e | e)
    · have := HI2.out.lt; omega
    · have := HC3.out i e.symm; omega)
  have hb5 : Below w.heap.size w w5 := HB4.out.trans (hch5.below HB4.out.size (fun i hi e => by
    rcases e with rfl | e
    · exact Nat.le_refl _
    · exact (hcw3 i e.symm).1))
  have hf5 := HF4.out.move (hn5 w3.heap.size (by omega) (.inl rfl))
  have hi5 : InAt w5 w1.heap.size 0 := (hn5 _ HI4.out.lt (.inr rfl)).trans HI4.out
  have hz5 := hch5.size
  obtain ⟨w6, hw6⟩ : ∃ W, W = w5.alloc (Obj.cells #[.int .i64 11, .int .i64 2, .int .i64 0, .int .i64 2, .int .i64 0, .int .i64 0, .string ⟨#[]⟩, .string ⟨#[]⟩, .float .f64 0, .slice A5 0 c5] 33) := ⟨_, rfl⟩
  have hb56 : Below w5.heap.size w5 w6 := by rw [hw6]; exact below_box _ _
  have HW6 := Lib.hid hw6.symm
  have HG6 := Lib.hid (show FrC w6 w5.heap.size (endF 2 2) A5 c5 by rw [hw6]; exact FrC.box w5 (endF 2 2) A5 c5 _)
  have hz6 : w6.heap.size = w5.heap.size + 1 := by rw [hw6]; simp
  have HB6 := Lib.hid (below_on hb5 hb56)
  have HO6 := Lib.hid (ho5.on hb56)
  have HI6 := Lib.hid (show InAt w6 w1.heap.size 0 from (hb56.block _ hi5.lt).trans hi5)
  have HF6 := Lib.hid (hf5.on (by omega) hb56)
  have HAk := Lib.hid ((ack_any es (w.heap.size ≤ ·) w6 w.heap.size v5 ro2 1 (HE.out.step HB6.out) HO6.out fine2).mono fun e w' h => h.1 (by decide))
  clear hn5 hb5 hf5 hi5 hw6 hb56 ho5 hch5 hat5 HP2 hcw3
  go_wp2_with (rw [HW6.out])
  refine HAk.out.mono ?_
  rintro e w7 ⟨rfl, hch7, v7, ho7, hcb7⟩
  have HO7 := Lib.hid (show OutAt (w.heap.size ≤ ·) w7 w.heap.size v7 ro3 from ho7)
  have hz7 := hch7.size
  have hiw := HI2.out.lt
  have hn7 : ∀ i, i < w6.heap.size → i ≠ w.heap.size → w7.heap[i]? = w6.heap[i]? := fun i hi h => hch7.block i hi h
  have hi7 : InAt w7 w1.heap.size 0 := (hn7 _ HI6.out.lt (by omega)).trans HI6.out
  have HB7 := Lib.hid (show Below w.heap.size w w7 from HB6.out.trans (hch7.below HB6.out.size (fun i hi e => by rw [e]; exact Nat.le_refl _)))
  have HI7 := Lib.hid hi7
  have HF7 := Lib.hid (HF6.out.move (hn7 w3.heap.size (by omega) (by omega)))
  have HG7 := Lib.hid (HG6.out.move (hn7 w5.heap.size (by omega) (by omega)))
  have HSn := Lib.hid (since_any es (w.heap.size ≤ ·) w7 w.heap.size v7 ro3 1 (HE.out.step HB7.out) HO7.out fine3)
  clear hch7 ho7 hcb7 hn7 hi7 HAk
  go_wp2_with fail
  refine HSn.out.mono ?_
  rintro e w8 ⟨hb8, hy, _⟩
  obtain ⟨A8, c8, cs8, he8, ho8, hf8⟩ := hy (by decide)
  have hl8 : (ro3.held.drop ((1 : Int).toNat - ro3.acked)).length = 1 := rfl
  rw [hl8] at he8 ho8 hf8
  obtain ⟨gd, A9, c9, hA8, hgd, hfe, hrx⟩ := hf8.at (RdC.of_own ho8) 0 (by rw [hl8]; omega)
  have hf81 : w8.cell? ⟨gd.block, gd.off + 1, none⟩ = some (.int .i64 2) := by
    have := hfe.c1
    rw [show gd.add (0 * 10) = gd by unfold Addr.add; simp] at this
    exact this
  subst hA8
  subst he8
  have hz8 := hb8.size
  have HB8 := Lib.hid (below_on HB7.out hb8)
  have HO8 := Lib.hid (HO7.out.on hb8)
  have HI8 := Lib.hid (show InAt w8 w1.heap.size 0 from (hb8.block _ HI7.out.lt).trans HI7.out)
  have HF8 := Lib.hid (HF7.out.on (by omega) hb8)
  have HG8 := Lib.hid (HG7.out.on (by omega) hb8)
  have HX8 := Lib.hid hf81
  have HGd := Lib.hid hgd
  have HSm := Lib.hid (since_any es (w.heap.size ≤ ·) w8 w.heap.size v7 ro3 0 (HE.out.step HB8.out) HO8.out fine3)
  clear hb8 hy ho8 hf8 hgd hfe hf81 HSn hrx hl8
  go_wp2_with fail
  refine HSm.out.mono ?_
  rintro e w9 ⟨hb9, _, hn⟩
  have he9 := hn (by decide)
  subst he9
  have hz9 := hb9.size
  have HB9 := Lib.hid (below_on HB8.out hb9)
  have HI9 := Lib.hid (show InAt w9 w1.heap.size 0 from (hb9.block _ HI8.out.lt).trans HI8.out)
  have HF9 := Lib.hid (HF8.out.on (by omega) hb9)
  have HG9 := Lib.hid (HG8.out.on (by omega) hb9)
  have HX9 := Lib.hid ((hb9.cell (p := ⟨gd.block, gd.off + 1, none⟩) HGd.out.2).trans HX8.out)
  have htk := (rtake_any es w9 w1.heap.size 0 (endF 1 1) A3 c3 (HE.out.step HB9.out) HI9.out (by omega) (end_lens _ _) (RdC.nil _ _ _))
  unfold TakeRP at htk
  rw [take0, hs1] at htk
  have HTk := Lib.hid (show Calls Tryd.prog 19 #[.pointer (some ⟨w.heap.size + 1, 0, none⟩), .agg #[.int .i64 11, .int .i64 1, .int .i64 0, .int .i64 1, .int .i64 0, .int .i64 0, .string ⟨#[]⟩, .string ⟨#[]⟩, .float .f64 0, .slice A3 0 c3]] w9 (fun e w' => e = .returned (.tuple #[.bool true, .nilIface]) ∧ ∃ w1', Below w9.heap.size w9 w1' ∧ w' = w1'.setCell ⟨w.heap.size + 1, 0, none⟩ (.int .i64 (gotR 0 (endF 1 1) : Nat))) from htk)
  obtain ⟨d0, d1, d2, d3, d4, d5, d6, d7, d8, d9⟩ := HF9.out
  have d0 : w9.cell? ⟨w3.heap.size, 0, none⟩ = some (.int .i64 11) := d0
  have d1 : w9.cell? ⟨w3.heap.size, 1, none⟩ = some (.int .i64 1) := d1
  have d2 : w9.cell? ⟨w3.heap.size, 2, none⟩ = some (.int .i64 0) := d2
  have d3 : w9.cell? ⟨w3.heap.size, 3, none⟩ = some (.int .i64 1) := d3
  have d4 : w9.cell? ⟨w3.heap.size, 4, none⟩ = some (.int .i64 0) := d4
  have d5 : w9.cell? ⟨w3.heap.size, 5, none⟩ = some (.int .i64 0) := d5
  have d6 : w9.cell? ⟨w3.heap.size, 6, none⟩ = some (.string ⟨#[]⟩) := d6
  have d7 : w9.cell? ⟨w3.heap.size, 7, none⟩ = some (.string ⟨#[]⟩) := d7
  have d8 : w9.cell? ⟨w3.heap.size, 8, none⟩ = some (.float .f64 0) := d8
  have d9 : w9.cell? ⟨w3.heap.size, 9, none⟩ = some (.slice A3 0 c3) := d9
  clear hb9 hn HSm htk
  unfold errV
  go_wp2_with fail
  refine HTk.out.mono ?_
  rintro e w10 ⟨rfl, w10', hb10, hw10⟩
  have hz10 := hb10.size
  have h10 : ∀ i, i < w9.heap.size → i ≠ w.heap.size + 1 → w10.heap[i]? = w9.heap[i]? := fun i hi hn => by
    rw [hw10, heap_setCell_other _ _ _ _ hn]
    exact hb10.block i hi
  have HB10 := Lib.hid (show Below w.heap.size w w10 by rw [hw10]; exact (below_on HB9.out hb10).setCell (by show w.heap.size ≤ w.heap.size + 1; omega) _)
  have x1 : w10.cell? ⟨w3.heap.size, 1, none⟩ = some (.int .i64 1) := (World.cell?_of_block (a := ⟨w3.heap.size, 1, none⟩) (h10 w3.heap.size (by omega) (by omega))).trans d1
  have x2 : w10.cell? ⟨w5.heap.size, 1, none⟩ = some (.int .i64 2) := (World.cell?_of_block (a := ⟨w5.heap.size, 1, none⟩) (h10 w5.heap.size (by omega) (by omega))).trans HG9.out.c1
  have x3 : w10.cell? ⟨gd.block, gd.off + 1, none⟩ = some (.int .i64 2) := (World.cell?_of_block (a := ⟨gd.block, gd.off + 1, none⟩) (h10 gd.block (by have := HGd.out.2; omega) (by have := HGd.out.1; omega))).trans HX9.out
  have he := ((HE.out.step HB10.out).gap).at
  unfold errV at he
  clear hw10 hb10 h10 d0 d1 d2 d3 d4 d5 d6 d7 d8 d9 HTk
  go_wp2_with fail
  go_ret
  exact ⟨rfl, HB10.out⟩
end Go.Proofs.YtipgimmgjdgdeaaDoor
