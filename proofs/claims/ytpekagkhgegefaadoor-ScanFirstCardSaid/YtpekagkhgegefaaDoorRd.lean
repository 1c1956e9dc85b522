/- Walks of the reference's words (layer 2): Words, New. -/
import Derived.Test.YtpekagkhgegefaaDoorRb
set_option linter.unusedVariables false
set_option linter.unusedSimpArgs false
set_option linter.unnecessarySimpa false
namespace Go.Proofs.YtpekagkhgegefaaDoor
open Go.RowKit

theorem primesTo_lt (n q : Nat) (hn : n = 8 ∨ n = 64) (h : q ∈ primesTo (primeEnd n)) : q < 18446744073709551616 := by
  have := primesTo_pos _ q h
  have : primeEnd n ≤ 310 := by unfold primeEnd; split <;> omega
  omega
theorem getD_mem {xs : List Nat} {t : Nat} (h : t < xs.length) : xs.getD t 0 ∈ xs := by simp [h]
theorem map_take_succ (f : Nat → Nat) (xs : List Nat) (t : Nat) (h : t < xs.length) : (xs.take (t + 1)).map f = (xs.take t).map f ++ [f (xs.getD t 0)] := by
  rw [List.take_succ_eq_append_getElem h, List.map_append]
  simp [h]
theorem u32s_append (a b : List Nat) : u32s (a ++ b) = u32s a ++ u32s b := by simp [u32s]
def WordsP (w : World) (e : Ending) (w' : World) : Prop := ∃ va vb, e = .returned (.tuple #[va, vb]) ∧ w'.ownsRow w.heap.size 107 1 va 8 (u32s firstWords) ∧ w'.ownsRow w.heap.size 107 1 vb 64 (u32s roundWords) ∧ Below w.heap.size w w'
set_option maxRecDepth 8000 in
set_option maxHeartbeats 1000000 in
theorem words_any (w : World) : Calls Tryd.prog 46 #[] w (WordsP w) := by
  obtain ⟨i0, hi, hz0, hz1, hz2⟩ := info_parts infoU32
  have hb0 : Below w.heap.size w ((w.alloc (.cells #[] 107)).alloc (.cells #[] 107)) := ((Below.refl _ _).alloc (Nat.le_refl _) _).alloc (by simp) _
  have ha0 : ((w.alloc (.cells #[] 107)).alloc (.cells #[] 107)).ownsRow w.heap.size 107 1 (.slice (some ⟨w.heap.size, 0, none⟩) 0 0) 0 [] := (World.ownsRow_lit (base := w.heap.size) (e := 107) (size := 1) w #[] 0 (Nat.le_refl _) (by simp [maxLen]) (by simp)).alloc _
  have hv0 : ((w.alloc (.cells #[] 107)).alloc (.cells #[] 107)).ownsRow w.heap.size 107 1 (.slice (some ⟨w.heap.size + 1, 0, none⟩) 0 0) 0 [] := by
    have := World.ownsRow_lit (base := w.heap.size) (e := 107) (size := 1) (w.alloc (.cells #[] 107)) #[] 0 (by simp) (by simp [maxLen]) (by simp)
    simpa using this
  have hp8 := primes_any 8 ((w.alloc (.cells #[] 107)).alloc (.cells #[] 107)) (.inl rfl)
  have HB0 := Lib.hid hb0
  have HA0 := Lib.hid ha0
  have HV0 := Lib.hid hv0
  have HP8 := Lib.hid hp8
  clear hb0 ha0 hv0 hp8
  go_enter Tryd.func46, Tryd.ntmps46
  go_wp2_with fail
  refine HP8.out.mono ?_
  rintro e w1 ⟨vp, rfl, hownp, hbp⟩
  have hn8 := primes_end 8 (.inl rfl)
  have hlt8 := fun q => primesTo_lt 8 q (.inl rfl)
  have hroot := first_roots
  generalize primesTo (primeEnd 8) = qs at *
  rw [hn8] at hownp
  obtain ⟨AP, cp, rfl, _, _⟩ := own_slice hownp
  have hs0 : ((w.alloc (.cells #[] 107)).alloc (.cells #[] 107)).heap.size = w.heap.size + 1 + 1 := by simp
  have hs1 : w.heap.size + 2 ≤ w1.heap.size := by have := hbp.size; rw [hs0] at this; omega
  have hrp : RdC (fun k => w.heap.size + 2 ≤ k ∧ k < w1.heap.size) w1 AP (u64s qs) := (RdC.of_own hownp).mono (fun k hk => ⟨by have := hk.1; rw [hs0] at this; omega, hk.2⟩)
  have ha1 := own_below HA0.out hbp
  have hv1 := own_below HV0.out hbp
  have hbw1 : Below w.heap.size w w1 := HB0.out.trans (hbp.mono (by rw [hs0]; omega))
  have HRp := Lib.hid hrp
  have HA1 := Lib.hid ha1
  have HV1 := Lib.hid hv1
  have HB1 := Lib.hid hbw1
  have HLt := Lib.hid hlt8
  have HRo := Lib.hid hroot
  have HN8 := Lib.hid hn8
  clear hownp hbp hrp ha1 hv1 hbw1 hlt8 hroot hn8 hs0
  go_wp2_with fail
  go_loopw [2, 12] (fun v i wq => ∃ t : Nat, t ≤ 8 ∧ i = .int .i64 t ∧ wq.ownsRow w.heap.size 107 1 v t (u32s ((qs.take t).map fun p => rootN p 2)) ∧ Grew w1 (.slice (some ⟨w.heap.size, 0, none⟩) 0 0) wq v) (fun _ i _ => 8 - (intOf i).toNat)
  case atStart => exact ⟨0, by omega, rfl, HA1.out, Grew.refl _ _⟩
  case round =>
    obtain ⟨t, ht, rfl, hown, hgr⟩ := hrel
    by_cases hlt : t < 8
    · have htq : t < qs.length := by rw [HN8.out]; exact hlt
      have hsn := map_take_succ (fun p => rootN p 2) qs t htq
      have hq := HLt.out (qs.getD t 0) (getD_mem htq)
      obtain ⟨ad, rfl, hadb, hcell⟩ := HRp.out (map_ne htq)
      have c2 : wr.cell? (ad.add t) = some (.int .u64 ((qs.getD t 0 : Nat) : Int)) := (World.cell?_of_block (by rw [add_block]; exact hgr.by_.block _ hadb.2 (by simp [Value.ownBlock]; omega))).trans (hcell t _ (by simp [u64s, htq]))
      generalize qs.getD t 0 = q at *
      have hro := root_any q 2 wr (.inl rfl) hq
      have j0 : (0 : Int) ≤ (t : Int) := by omega
      have j1 : (t : Int) < 8 := by omega
      have hwr : w1.heap.size ≤ wr.heap.size := hgr.by_.size
      have HSn := Lib.hid hsn
      have HRt := Lib.hid hro
      have HO := Lib.hid hown
      have HG := Lib.hid hgr
      clear hsn hro hcell hown hgr
      rw [show ((2 : Nat) : Int) = 2 from rfl] at HRt
      go_wp2_with (first
        | (go_at_call 63; refine HRt.out.mono ?_; rintro e w' ⟨rfl, rfl⟩)
        | (
          at_builtin
          refine wpList_app1 w.heap.size _ _ 92 107 i0 (.int .u32 0) 4 rfl (by rfl) Tryd.underlying92 hi hz0 hz1 hz2 (by rfl) (by omega) _ t _ (.int .u32 ((rootN q 2 : Nat) : Int)) (by rfl) wr.heap.size rfl (by rfl) HO.out rfl (by omega) (by omega) ?_
          intro v2 w2 hown2 hg2
          have HO2 := Lib.hid hown2
          have HG2 := Lib.hid (HG.out.trans hg2)
          clear hown2 hg2))
      exact ⟨⟨t + 1, by omega, by go_num, by rw [HSn.out, u32s_append]; exact HO2.out, HG2.out⟩, by simp [intOf]; omega⟩
    · obtain rfl : t = 8 := by omega
      rw [List.take_of_length_le (by rw [HN8.out]; omega), HRo.out] at hown
      rw [show ((8 : Nat) : Int) = 8 from rfl]
      have hwr : w1.heap.size ≤ wr.heap.size := hgr.by_.size
      have hv2 := HV1.out.kept hgr.by_ (.inr (by simp [Value.ownBlock]))
      have hne : u2.ownBlock ≠ some (w.heap.size + 1) := fun e => by
        rcases hgr.at_ with h | ⟨b, h, hb⟩
        · rw [h] at e; simp [Value.ownBlock] at e
        · rw [h] at e; injection e with e; omega
      obtain ⟨A2, c2, rfl, _, _⟩ := own_slice hown
      have hp64 := primes_any 64 wr (.inr rfl)
      have hbr : Below w.heap.size w wr := hgr.below HB1.out (by omega) (fun k hk => by simp [Value.ownBlock] at hk; omega)
      have HO := Lib.hid hown
      have HV2 := Lib.hid hv2
      have HNe := Lib.hid hne
      have HP64 := Lib.hid hp64
      have HBr := Lib.hid hbr
      clear hown hgr hv2 hne hp64 hbr
      go_wp2_with fail
      refine HP64.out.mono ?_
      rintro e w2 ⟨vp2, rfl, hownp, hbp⟩
      have hn64 := primes_end 64 (.inr rfl)
      have hlt64 := fun q => primesTo_lt 64 q (.inr rfl)
      have hroot := round_roots
      generalize primesTo (primeEnd 64) = qs2 at *
      rw [hn64] at hownp
      obtain ⟨AP2, cp2, rfl, _, _⟩ := own_slice hownp
      have hs2 : wr.heap.size ≤ w2.heap.size := hbp.size
      have hrp : RdC (fun k => wr.heap.size ≤ k ∧ k < w2.heap.size) w2 AP2 (u64s qs2) := RdC.of_own hownp
      have ha2 := own_below HO.out hbp
      have hv3 := own_below HV2.out hbp
      have HRp2 := Lib.hid hrp
      have HA2 := Lib.hid ha2
      have HV3 := Lib.hid hv3
      have HB2 := Lib.hid (HBr.out.trans (hbp.mono HBr.out.size))
      have HLt2 := Lib.hid hlt64
      have HRo2 := Lib.hid hroot
      have HN64 := Lib.hid hn64
      clear hownp hbp hrp ha2 hv3 hlt64 hroot hn64
      go_wp2_with fail
      go_loopw [3, 24] (fun v i wq => ∃ t : Nat, t ≤ 64 ∧ i = .int .i64 t ∧ wq.ownsRow w.heap.size 107 1 v t (u32s ((qs2.take t).map fun p => rootN p 3)) ∧ Grew w2 (.slice (some ⟨w.heap.size + 1, 0, none⟩) 0 0) wq v) (fun _ i _ => 64 - (intOf i).toNat)
      case atStart => exact ⟨0, by omega, rfl, HV3.out, Grew.refl _ _⟩
      case round =>
        obtain ⟨t, ht, rfl, hown, hgr⟩ := hrel
        by_cases hlt2 : t < 64
        · have htq : t < qs2.length := by rw [HN64.out]; exact hlt2
          have hsn := map_take_succ (fun p => rootN p 3) qs2 t htq
          have hq := HLt2.out (qs2.getD t 0) (getD_mem htq)
          obtain ⟨ad, rfl, hadb, hcell⟩ := HRp2.out (map_ne htq)
          have c2 : wr.cell? (ad.add t) = some (.int .u64 ((qs2.getD t 0 : Nat) : Int)) := (World.cell?_of_block (by rw [add_block]; exact hgr.by_.block _ hadb.2 (by simp [Value.ownBlock]; have := hadb.1; omega))).trans (hcell t _ (by simp [u64s, htq]))
          generalize qs2.getD t 0 = q at *
          have hro := root_any q 3 wr (.inr rfl) hq
          have j0 : (0 : Int) ≤ (t : Int) := by omega
          have j1 : (t : Int) < 64 := by omega
          have hwr2 : w2.heap.size ≤ wr.heap.size := hgr.by_.size
          have HSn := Lib.hid hsn
          have HRt := Lib.hid hro
          have HO3 := Lib.hid hown
          have HG := Lib.hid hgr
          clear hsn hro hcell hown hgr
          rw [show ((3 : Nat) : Int) = 3 from rfl] at HRt
          go_wp2_with (first
            | (go_at_call 63; refine HRt.out.mono ?_; rintro e w' ⟨rfl, rfl⟩)
            | (
              at_builtin
              refine wpList_app1 w.heap.size _ _ 92 107 i0 (.int .u32 0) 4 rfl (by rfl) Tryd.underlying92 hi hz0 hz1 hz2 (by rfl) (by omega) _ t _ (.int .u32 ((rootN q 3 : Nat) : Int)) (by rfl) wr.heap.size rfl (by rfl) HO3.out rfl (by omega) (by omega) ?_
              intro v2 w3 hown2 hg2
              have HO4 := Lib.hid hown2
              have HG2 := Lib.hid (HG.out.trans hg2)
              clear hown2 hg2))
          exact ⟨⟨t + 1, by omega, by go_num, by rw [HSn.out, u32s_append]; exact HO4.out, HG2.out⟩, by simp [intOf]; omega⟩
        · obtain rfl : t = 64 := by omega
          rw [List.take_of_length_le (by rw [HN64.out]; omega), HRo2.out] at hown
          have ha3 := HA2.out.kept hgr.by_ (.inr HNe.out)
          have hbf : Below w.heap.size w wr := hgr.below HB2.out HB2.out.size (fun k hk => by simp [Value.ownBlock] at hk; omega)
          have HO5 := Lib.hid hown
          have HA3 := Lib.hid ha3
          have HBf := Lib.hid hbf
          clear hown hgr ha3 hbf
          go_wp2_with fail
          go_ret2
          exact ⟨_, _, rfl, HA3.out, HO5.out, HBf.out⟩
/-- The table of the reference: two rows of words, in a block of its own. -/
structure TableAt (base : Nat) (w : World) (H : Nat) (va vb : Value) : Prop where
  head : w.heap[H]? = some (.cells #[va, vb] 96 (0, 0))
  first : w.ownsRow base 107 1 va 8 (u32s firstWords)
  round : w.ownsRow base 107 1 vb 64 (u32s roundWords)
  le : base ≤ H
def NewP (w : World) (e : Ending) (w' : World) : Prop := ∃ H va vb, e = .returned (.pointer (some ⟨H, 0, none⟩)) ∧ TableAt w.heap.size w' H va vb ∧ Below w.heap.size w w'
theorem new_any (w : World) : Calls Tryd.prog 22 #[] w (NewP w) := by
  go_enter Tryd.func22, Tryd.ntmps22
  go_wp2_with fail
  refine (words_any w).mono ?_
  rintro e w1 ⟨va, vb, rfl, ha, hb, hbel⟩
  obtain ⟨A, c, rfl, _, _⟩ := own_slice ha
  obtain ⟨B, d, rfl, _, _⟩ := own_slice hb
  have HA := Lib.hid ha
  have HB := Lib.hid hb
  have HBl := Lib.hid hbel
  clear ha hb hbel
  go_wp2_with fail
  go_ret
  exact ⟨_, _, _, rfl, ⟨heap_alloc_new _ _, HA.out.alloc _, HB.out.alloc _, HBl.out.size⟩, HBl.out.alloc HBl.out.size _⟩
end Go.Proofs.YtpekagkhgegefaaDoor
