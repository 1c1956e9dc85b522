/- Walk of the reference's Keyed (layer 2). -/
import Derived.Test.YtnnokbipcenbgaaDoorRg
import Derived.Test.YtnnokbipcenbgaaDoorHy
import Derived.RegionTactic
set_option linter.unusedVariables false
set_option linter.unusedSimpArgs false
set_option linter.unnecessarySimpa false
namespace Go.Proofs.YtnnokbipcenbgaaDoor
open Go.RowKit

theorem TableAt.below {base : Nat} {w w' : World} {H : Nat} {va vb : Value} (h : TableAt base w H va vb) (hb : Below w.heap.size w w') : TableAt base w' H va vb :=
  ⟨(hb.block H (Array.getElem?_eq_some_iff.1 h.head).1).trans h.head, own_below h.first hb, own_below h.round hb, h.le⟩
theorem own_of_arr {w : World} {g base : Nat} {bs : Bs} (h : BArr w g 5 bs) (hb : base ≤ g) (n : Nat) (hn : bs.length = n) (hm : n ≤ maxLen) : w.ownsRow base 5 1 (.slice (some ⟨g, 0, none⟩) n n) n (bvs bs) := by
  subst hn
  exact ⟨by simp, .inr ⟨g, bs.length, (bvs bs).toArray, rfl, hb, h, Nat.le_refl _, hm, by simp, List.take_of_length_le (by simp)⟩⟩
def keyIn (key : Bs) : Bs := if 64 < key.length then sha key else key
theorem pad64_in (key : Bs) : pad64 key = keyIn key ++ List.replicate (64 - (keyIn key).length) 0 := rfl
theorem keyIn_le (key : Bs) : (keyIn key).length ≤ 64 := by
  unfold keyIn
  split
  · rw [sha_length]; omega
  · omega
theorem pad_get (p kk : Bs) (t : Nat) (hp : p = kk ++ List.replicate (64 - kk.length) 0) : p.getD t 0 = kk.getD t 0 := by
  subst hp
  simp only [List.getD_eq_getElem?_getD]
  by_cases h : t < kk.length
  · rw [List.getElem?_append_left h]
  · rw [List.getElem?_append_right (by omega), List.getElem?_eq_none (show kk.length ≤ t by omega), List.getElem?_replicate]
    split <;> rfl
theorem map_getD (f : UInt8 → UInt8) (p : Bs) (t : Nat) (h : t < p.length) : (p.map f).getD t 0 = f (p.getD t 0) := by simp [h]
theorem fillL_zero (p : Bs) (f : UInt8 → UInt8) (h : p.length = 64) : fillL (p.map f) 0 = zeros64 := by simp [fillL, zeros64, h]
def ROutP (w : World) (x : Bs) (e : Ending) (w' : World) : Prop := ∃ v, e = .returned v ∧ w'.ownsRow w.heap.size 5 1 v 32 (bvs x) ∧ Below w.heap.size w w'
set_option maxRecDepth 8000 in
set_option maxHeartbeats 4000000 in
theorem rkeyed_any (w : World) (H : Nat) (va vb : Value) (base : Nat) (K B : Option Addr) (ck cb : Nat) (key b : Bs) (hT : TableAt base w H va vb) (hK : RdC (· < w.heap.size) w K (bvs key)) (hB : RdC (· < w.heap.size) w B (bvs b)) (hkl : key.length ≤ 1099511627776) (hl : b.length ≤ 109951162777) :
    Calls Tryd.prog 38 #[.pointer (some ⟨H, 0, none⟩), .slice K key.length ck, .slice B b.length cb] w (ROutP w (keyed key b)) := by
  obtain ⟨i0, hi, hz0, hz1, hz2⟩ := info_parts infoU8h
  have hmk : ∀ w, (Instr.makeSlice 22 (.int .i64 64) (.int .i64 64)).run Tryd.prog w = .ok (.slice (some ⟨w.heap.size, 0, none⟩) 64 64) (w.alloc (.cells (bvs zeros64).toArray 5 (0, 0))) := fun _ => by kernel_rfl
  obtain ⟨Z, hZ⟩ : ∃ Z, Z = (bvs zeros64).toArray := ⟨_, rfl⟩
  rw [← hZ] at hmk
  obtain ⟨W0, hW0⟩ : ∃ x, x = w := ⟨_, rfl⟩
  have hkd : keyed key b = sha ((pad64 key).map (· ^^^ 92) ++ sha ((pad64 key).map (· ^^^ 54) ++ b)) := rfl
  have hpl := pad64_length key
  have hpad := pad64_in key
  have hkil := keyIn_le key
  have hb0 : Below W0.heap.size W0 w := by rw [hW0]; exact Below.refl _ _
  rw [show ROutP w (keyed key b) = ROutP W0 (keyed key b) by rw [hW0]]
  generalize keyed key b = res at *
  generalize pad64 key = p at *
  have HT := Lib.hid hT
  have HK := Lib.hid hK
  have HB := Lib.hid hB
  have HZ := Lib.hid hZ
  have HKd := Lib.hid hkd
  have HPl := Lib.hid hpl
  have HBl := Lib.hid hb0
  clear hT hK hB hZ hW0 hkd hpl hb0
  by_cases h64 : 64 < key.length
  focus (
    have t1 : (64 : Int) < (key.length : Int) := by omega
    simp only [keyIn, if_pos h64] at hpad hkil
    have HPad := Lib.hid hpad
    have hsl := sha_length key
    have HSl := Lib.hid hsl
    clear hpad hsl
    go_enter Tryd.func38, Tryd.ntmps38
    go_wp2_with fail
    refine (rdigest_any w H va vb base K ck key HT.out HK.out hkl).mono ?_
    rintro e w1 ⟨v1, rfl, hown, hbel⟩
    have hown2 : w1.ownsRow w.heap.size 5 1 v1 (sha key).length (bvs (sha key)) := by rw [HSl.out]; exact hown
    clear hown
    obtain ⟨A1, c1, rfl, _, _⟩ := own_slice hown2
    have HR1 := Lib.hid ((RdC.of_own hown2).mono (ok' := (· < w1.heap.size)) fun _ h => h.2)
    have HT1 := Lib.hid (HT.out.below hbel)
    have HBb := Lib.hid (HB.out.toBelow hbel hbel.size)
    have HBl1 := Lib.hid (HBl.out.trans (hbel.mono HBl.out.size))
    clear hown2 hbel
    generalize sha key = kk at *
    go_wp2_with fail
    go_region)
  rotate_left 2
  focus (
    have t1 : ¬ (64 : Int) < (key.length : Int) := by omega
    simp only [keyIn, if_neg h64] at hpad hkil
    have HPad := Lib.hid hpad
    clear hpad
    obtain ⟨w1, rfl⟩ : ∃ x, x = w := ⟨_, rfl⟩
    obtain ⟨kk, rfl⟩ : ∃ x, x = key := ⟨_, rfl⟩
    obtain ⟨A1, rfl⟩ : ∃ x, x = K := ⟨_, rfl⟩
    obtain ⟨c1, rfl⟩ : ∃ x, x = ck := ⟨_, rfl⟩
    have HR1 := HK
    have HT1 := HT
    have HBb := HB
    have HBl1 := HBl
    go_enter Tryd.func38, Tryd.ntmps38
    go_wp2_with fail
    go_region)
  all_goals (
    have bp : BArr ((w1.alloc (Obj.cells Z 5)).alloc (Obj.cells Z 5)).drew w1.heap.size 5 zeros64 := by rw [HZ.out]; exact heap_alloc2_old _ _ _
    have bq : BArr ((w1.alloc (Obj.cells Z 5)).alloc (Obj.cells Z 5)).drew (w1.heap.size + 1) 5 zeros64 := by rw [HZ.out]; exact heap_alloc2_new _ _ _
    have hb2 : Below w1.heap.size w1 ((w1.alloc (Obj.cells Z 5)).alloc (Obj.cells Z 5)).drew := (((Below.refl _ _).alloc (Nat.le_refl _) _).alloc (by simp) _).drew
    have hs2 : w1.heap.size + 1 < ((w1.alloc (Obj.cells Z 5)).alloc (Obj.cells Z 5)).drew.heap.size := bq.lt
    generalize ((w1.alloc (Obj.cells Z 5)).alloc (Obj.cells Z 5)).drew = W2 at *)
  focus (
    obtain ⟨gi, hgi⟩ : ∃ x, w1.heap.size = x := ⟨_, rfl⟩
    obtain ⟨go, hgo⟩ : ∃ x, w1.heap.size + 1 = x := ⟨_, rfl⟩
    have bi : BArr W2 gi 5 zeros64 := by rw [← hgi]; exact bp
    have bo : BArr W2 go 5 zeros64 := by rw [← hgo]; exact bq
    rw [hgo, hgi])
  rotate_left 1
  focus (
    obtain ⟨gi, hgi⟩ : ∃ x, w1.heap.size + 1 = x := ⟨_, rfl⟩
    obtain ⟨go, hgo⟩ : ∃ x, w1.heap.size = x := ⟨_, rfl⟩
    have bi : BArr W2 gi 5 zeros64 := by rw [← hgi]; exact bq
    have bo : BArr W2 go 5 zeros64 := by rw [← hgo]; exact bp
    rw [hgi, hgo])
  rotate_left 1
  focus (
    obtain ⟨gi, hgi⟩ : ∃ x, w1.heap.size = x := ⟨_, rfl⟩
    obtain ⟨go, hgo⟩ : ∃ x, w1.heap.size + 1 = x := ⟨_, rfl⟩
    have bi : BArr W2 gi 5 zeros64 := by rw [← hgi]; exact bp
    have bo : BArr W2 go 5 zeros64 := by rw [← hgo]; exact bq
    rw [hgo, hgi])
  rotate_left 1
  focus (
    obtain ⟨gi, hgi⟩ : ∃ x, w1.heap.size + 1 = x := ⟨_, rfl⟩
    obtain ⟨go, hgo⟩ : ∃ x, w1.heap.size = x := ⟨_, rfl⟩
    have bi : BArr W2 gi 5 zeros64 := by rw [← hgi]; exact bq
    have bo : BArr W2 go 5 zeros64 := by rw [← hgo]; exact bp
    rw [hgi, hgo])
  all_goals (
    have hio : gi ≠ go := by omega
    have hli : w1.heap.size ≤ gi := by omega
    have hlo : w1.heap.size ≤ go := by omega
    have hl2i : gi < W2.heap.size := by omega
    have hl2o : go < W2.heap.size := by omega
    have HBi := Lib.hid bi
    have HBo := Lib.hid bo
    have HB2 := Lib.hid hb2
    clear hgi hgo bi bo bp bq hb2 hs2 hmk
    go_wp2_with fail
    go_loopw [21] (fun i wq => ∃ t : Nat, t ≤ 64 ∧ i = .int .i64 t ∧ BArr wq gi 5 (fillL (p.map (· ^^^ 54)) t) ∧ BArr wq go 5 (fillL (p.map (· ^^^ 92)) t) ∧ Below w1.heap.size w1 wq) (fun i _ => 64 - (intOf i).toNat)
    case atStart => exact ⟨0, by omega, rfl, by rw [fillL_zero _ _ HPl.out]; exact HBi.out, by rw [fillL_zero _ _ HPl.out]; exact HBo.out, HB2.out⟩
    case round =>
      obtain ⟨t, ht, rfl, bi, bo, hbel⟩ := hrel
      have hbw : w1.heap.size ≤ wr.heap.size := hbel.size
      have HBe := Lib.hid hbel
      by_cases h8 : t < 64
      · have j1 : (t : Int) < 64 := by omega
        have j0 : (0 : Int) ≤ (t : Int) := by omega
        have hpg := pad_get p kk t HPad.out
        have ci := bi.cell t (by rw [fillL_length _ _ (by rw [List.length_map, HPl.out]; omega), List.length_map, HPl.out]; omega)
        have fi := bi.frozen t
        have co := bo.cell t (by rw [fillL_length _ _ (by rw [List.length_map, HPl.out]; omega), List.length_map, HPl.out]; omega)
        have fo := bo.frozen t
        have hsi := fillL_set (p.map (· ^^^ 54)) t (by rw [List.length_map, HPl.out]; omega)
        have hso := fillL_set (p.map (· ^^^ 92)) t (by rw [List.length_map, HPl.out]; omega)
        rw [map_getD _ _ _ (by rw [HPl.out]; omega), hpg] at hsi hso
        have HBi3 := Lib.hid bi
        have HBo3 := Lib.hid bo
        have HSi := Lib.hid hsi
        have HSo := Lib.hid hso
        clear hpg hsi hso bi bo
        generalize fillL (p.map (· ^^^ 54)) t = xi at *
        generalize fillL (p.map (· ^^^ 92)) t = xo at *
        have hoi : go ≠ gi := Ne.symm hio
        by_cases hk : t < kk.length
        · have j3 : (t : Int) < (kk.length : Int) := by omega
          obtain ⟨ad, rfl, hadb, c0⟩ := bytes_at (HR1.out.below hbel) t hk
          have hgd : kk.getD t 0 = kk[t] := by simp [hk]
          rw [hgd] at HSi HSo
          generalize kk[t] = x at *
          clear hbel hgd
          go_wp2_with fail
          rw [xor36, xor5c]
          refine ⟨⟨t + 1, by omega, by go_num, ?_, ?_, below_set (below_set HBe.out _ _ _ hli) _ _ _ hlo⟩, by simp [intOf]; omega⟩
          · rw [← HSi.out]
            exact (HBi3.out.set t _).move (heap_setCell_other _ _ _ _ hio)
          · rw [← HSo.out]
            exact (HBo3.out.move (heap_setCell_other _ _ _ _ hoi)).set t _
        · have j3 : ¬ (t : Int) < (kk.length : Int) := by omega
          have hgd : kk.getD t 0 = 0 := by simp only [List.getD_eq_getElem?_getD]; rw [List.getElem?_eq_none (by omega)]; rfl
          rw [hgd] at HSi HSo
          clear hbel hgd
          go_wp2_with fail
          rw [show Value.int .u8 (bits .xor .u8 0 54) = bv (0 ^^^ 54) from xor36 0, show Value.int .u8 (bits .xor .u8 0 92) = bv (0 ^^^ 92) from xor5c 0]
          refine ⟨⟨t + 1, by omega, by go_num, ?_, ?_, below_set (below_set HBe.out _ _ _ hli) _ _ _ hlo⟩, by simp [intOf]; omega⟩
          · rw [← HSi.out]
            exact (HBi3.out.set t _).move (heap_setCell_other _ _ _ _ hio)
          · rw [← HSo.out]
            exact (HBo3.out.move (heap_setCell_other _ _ _ _ hoi)).set t _
      · obtain rfl : t = 64 := by omega
        rw [show ((64 : Nat) : Int) = 64 from rfl]
        have hall : ∀ f : UInt8 → UInt8, fillL (p.map f) 64 = p.map f := fun f => by
          have := fillL_all (p.map f)
          rw [List.length_map, HPl.out] at this
          exact this
        rw [hall] at bi bo
        have hpl54 : (p.map (· ^^^ (54 : UInt8))).length = 64 := by rw [List.length_map, HPl.out]
        have hpl92 : (p.map (· ^^^ (92 : UInt8))).length = 64 := by rw [List.length_map, HPl.out]
        generalize p.map (· ^^^ (54 : UInt8)) = p5 at *
        generalize p.map (· ^^^ (92 : UInt8)) = p9 at *
        have HOi := Lib.hid (own_of_arr bi hli 64 hpl54 (by simp [maxLen]))
        have hlt : go < wr.heap.size := bo.lt
        have HBo3 := Lib.hid bo
        have HL5 := Lib.hid hpl54
        have HL9 := Lib.hid hpl92
        clear hall bi bo hbel hpl54 hpl92
        go_wp2_with (
          at_builtin
          refine wpList_appS (ok := fun k => k < w1.heap.size) _ w1.heap.size (.tmp 46) (.tmp 47) 22 5 i0 (.int .u8 0) 1 1 rfl (by rfl) Tryd.underlying22 hi hz0 hz1 hz2 rfl (by omega) (by omega) _ 64 _ (by rfl) HOi.out B b.length cb (bvs b) (by rfl) (by simp) (HBb.out.below HBe.out) (bvs_one b) (by omega) hbw ?_
          intro v3 w3 hown3 hg3
          have HB3 := Lib.hid (hg3.below HBe.out hbw (own_base HOi.out))
          have HBo4 := Lib.hid (HBo3.out.move (hg3.by_.block go hlt (by simp [Value.ownBlock]; omega)))
          have hx3 : w3.ownsRow w1.heap.size 5 1 v3 (p5 ++ b).length (bvs (p5 ++ b)) := by
            rw [bvs_append, List.length_append, HL5.out]
            exact hown3
          have HLx := Lib.hid (show (p5 ++ b).length = 64 + b.length by rw [List.length_append, HL5.out])
          obtain ⟨A3, c3, rfl, _, _⟩ := own_slice hx3
          generalize p5 ++ b = x3 at *
          have HR3 := Lib.hid ((RdC.of_own hx3).mono (ok' := (· < w3.heap.size)) fun _ h => h.2)
          clear hown3 hg3 hx3)
        refine (rdigest_any w3 H va vb base A3 c3 x3 (HT1.out.below HB3.out) HR3.out (by rw [HLx.out]; omega)).mono ?_
        rintro e w4 ⟨v4, rfl, hown4, hb4⟩
        obtain ⟨A4, c4, rfl, _, _⟩ := own_slice hown4
        have HR4 := Lib.hid ((RdC.of_own hown4).mono (ok' := (· < w4.heap.size)) fun _ h => h.2)
        have hlt3 : go < w3.heap.size := HBo4.out.lt
        have HOo := Lib.hid (own_of_arr (HBo4.out.move (hb4.block go hlt3)) hlo 64 HL9.out (by simp [maxLen]))
        have hb14 : Below w1.heap.size w1 w4 := HB3.out.trans (hb4.mono HB3.out.size)
        have HB4 := Lib.hid hb14
        have hbw4 : w1.heap.size ≤ w4.heap.size := hb14.size
        have hsl := sha_length x3
        generalize sha x3 = d at *
        have HSl := Lib.hid hsl
        clear hown4 hb4 hb14 hsl
        go_wp2_with (
          at_builtin
          refine wpList_appS (ok := fun k => k < w4.heap.size) _ w1.heap.size (.tmp 44) (.tmp 49) 22 5 i0 (.int .u8 0) 1 1 rfl (by rfl) Tryd.underlying22 hi hz0 hz1 hz2 rfl (by omega) (by omega) _ 64 _ (by rfl) HOo.out A4 32 c4 (bvs d) (by rfl) (by rw [bvs_length, HSl.out]) HR4.out (bvs_one d) (by omega) hbw4 ?_
          intro v5 w5 hown5 hg5
          have HB5 := Lib.hid (hg5.below HB4.out hbw4 (own_base HOo.out))
          have hx5 : w5.ownsRow w1.heap.size 5 1 v5 (p9 ++ d).length (bvs (p9 ++ d)) := by
            rw [bvs_append, List.length_append, HL9.out, HSl.out]
            exact hown5
          have HLx5 := Lib.hid (show (p9 ++ d).length = 64 + 32 by rw [List.length_append, HL9.out, HSl.out])
          obtain ⟨A5, c5, rfl, _, _⟩ := own_slice hx5
          generalize p9 ++ d = x5 at *
          have HR5 := Lib.hid ((RdC.of_own hx5).mono (ok' := (· < w5.heap.size)) fun _ h => h.2)
          clear hown5 hg5 hx5)
        refine (rdigest_any w5 H va vb base A5 c5 x5 (HT1.out.below HB5.out) HR5.out (by rw [HLx5.out]; omega)).mono ?_
        rintro e w6 ⟨v6, rfl, hown6, hb6⟩
        have HO6 := Lib.hid hown6
        have HB6 := Lib.hid (HB5.out.trans (hb6.mono HB5.out.size))
        clear hown6 hb6
        go_wp2_with fail
        go_ret
        exact ⟨_, rfl, by rw [HKd.out]; exact own_lower HO6.out (Nat.le_trans HBl1.out.size HB5.out.size), HBl1.out.trans (HB6.out.mono HBl1.out.size)⟩)
end Go.Proofs.YtnnokbipcenbgaaDoor
