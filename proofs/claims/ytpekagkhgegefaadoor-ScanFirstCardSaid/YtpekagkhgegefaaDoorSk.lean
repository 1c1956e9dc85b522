/- Statements of layer 6: what they share: alive. -/
import Derived.Test.YtpekagkhgegefaaDoorSf
import Derived.Test.YtpekagkhgegefaaDoorSh
import Derived.Test.YtpekagkhgegefaaDoorRp
set_option linter.unusedVariables false
set_option linter.unusedSimpArgs false
set_option linter.unnecessarySimpa false
namespace Go.Proofs.YtpekagkhgegefaaDoor
open Go.RowKit

set_option maxHeartbeats 800000 in
theorem broken_any (base : Nat) (w : World) (G : Nat) (v : Value) (h : Bs) (br : Bool) (hs : ScanAt base w G v h br) :
    Calls Tryd.prog 26 #[.pointer (some ⟨G, 0, none⟩)] w (fun e w' => e = .returned (.bool br) ∧ w = w') := by
  have g1 := hs.c1
  clear hs
  go_enter Tryd.func26, Tryd.ntmps26
  go_wp2_with fail
  go_ret
  exact ⟨rfl, rfl⟩
set_option maxHeartbeats 800000 in
theorem held_any (base : Nat) (w : World) (G : Nat) (v : Value) (h : Bs) (br : Bool) (hs : ScanAt base w G v h br) :
    Calls Tryd.prog 27 #[.pointer (some ⟨G, 0, none⟩)] w (fun e w' => e = .returned (.int .i64 h.length) ∧ w = w') := by
  obtain ⟨A, c, rfl, _, _⟩ := own_slice hs.own
  have g1 := hs.c0
  clear hs
  go_enter Tryd.func27, Tryd.ntmps27
  go_wp2_with fail
  go_ret
  exact ⟨rfl, rfl⟩
end Go.Proofs.YtpekagkhgegefaaDoor
/- Walks of package scan: Held, Broken (in the seat of law06 alone). -/
set_option linter.unusedVariables false
set_option linter.unusedSimpArgs false
set_option linter.unnecessarySimpa false
namespace Go.Proofs.YtpekagkhgegefaaDoor
open Go.RowKit
attribute [local go_sem] run_store_flt

theorem fits_ack : ackF.fits := by
  refine ⟨by decide, fun x hx => ?_⟩
  rcases nine hx with h | h | h | h | h | h | h | h | h <;> subst h <;> decide
theorem scan_ack_cut {P : Bs} (hP : P = putF ackF) (k : Nat) (hk : k < 15) : scanB (P.take k) = ([], 0, false) := by
  have h := scan_puts [] (by simp) ackF ack_ok k (by rw [ack_len]; exact hk)
  rw [hP]
  simpa using h
theorem scan_ack {P : Bs} (hP : P = putF ackF) : scanB P = ([ackF], 15, false) := by
  have h := scan_puts_all [ackF] (by intro f hf; rw [List.mem_singleton.1 hf]; exact ⟨ack_ok, fits_ack⟩)
  simp only [List.flatMap_cons, List.flatMap_nil, List.append_nil] at h
  rw [ack_len] at h
  rw [hP]
  exact h
theorem scan_00 : scanB [0, 0] = ([], 0, true) := Took.nil.bad (nx_bad_len (by decide) (by decide))
def heldAck (P : Bs) (k : Nat) : Bs := if k = 15 then [] else P.take k
def cntAck (k : Nat) : Int := if k = 15 then 1 else 0
set_option maxRecDepth 8000 in
set_option maxHeartbeats 6400000 in
theorem alive06 (es : Er → Addr) (w : World) (hE : GEnv w es) : Calls Tryd.prog 19 #[] w (OkPost w) := by
  obtain ⟨P, hP⟩ : ∃ P, P = putF ackF := ⟨_, rfl⟩
  have hrp : ∀ W H va vb base, TableAt base W H va vb → Calls Tryd.prog 36 #[.pointer (some ⟨H, 0, none⟩), frV ackF none 0] W _ := fun W H va vb base hT =>
    (rput_any ackF none 0 W H base va vb hT lens_ack (by decide) (RdC.nil _ _ _)).mono fun e w' h => h.ok ack_ok
  have hlen := ack_len
  rw [← hP] at hrp hlen
  rw [hlen] at hrp
  have HRp := Lib.hid hrp
  have HE := Lib.hid hE
  have HLen := Lib.hid hlen
  have HCut := Lib.hid (scan_ack_cut hP)
  have HAll := Lib.hid (scan_ack hP)
  have HNw := Lib.hid (new_any w)
  have hee := run_err_same
  clear hrp hE hP hlen
  go_enter Tryd.func19, Tryd.ntmps19
  go_wp2_with fail
  refine HNw.out.mono ?_
  rintro e w1 ⟨H, va, vb, rfl, hT, hb1⟩
  have HB1 := Lib.hid hb1
  have HRp1 := Lib.hid (HRp.out w1 H va vb _ hT)
  clear hT hb1
  go_wp2_with fail
  refine HRp1.out.mono ?_
  rintro e w2 ⟨hb2, A, c, rfl, hc, ho⟩
  have HB2 := Lib.hid (below_on HB1.out hb2)
  have HO2 := Lib.hid ho
  have HNs := Lib.hid (snew_any w2)
  clear hb2 ho
  go_wp2_with fail
  refine HNs.out.mono ?_
  rintro e w3 ⟨rfl, hb3, hs3, hh3⟩
  have hsc : ScanAt w2.heap.size w3 w2.heap.size (.slice none 0 0) [] false := ⟨hh3, ⟨rfl, .inl ⟨rfl, rfl⟩⟩, Nat.le_refl _, by simp [Value.ownBlock]⟩
  have HSc3 := Lib.hid hsc
  have HB3 := Lib.hid hb3
  have hz2 : w.heap.size ≤ w2.heap.size := HB2.out.size
  clear hb3 hs3 hh3 hsc
  go_wp2_with fail
  go_loopw [4, 21] (fun nn i wr => ∃ (k : Nat) (v : Value), k ≤ 15 ∧ i = .int .i64 k ∧ nn = .int .i64 (cntAck k) ∧ ScanAt w2.heap.size wr w2.heap.size v (heldAck P k) false ∧ Below w2.heap.size w2 wr) (fun _ i _ => 15 - (intOf i).toNat)
  case atStart => exact ⟨0, _, Nat.zero_le _, rfl, rfl, HSc3.out, HB3.out⟩
  case round =>
    obtain ⟨k, v, hk, rfl, rfl, hs, hbel⟩ := hrel
    have HS := Lib.hid hs
    have HBel := Lib.hid hbel
    have hzr := hbel.size
    by_cases hlt : k < 15
    · have hrd : RdC (· < wr.heap.size) wr A (bvs P) := ((RdC.of_own HO2.out).move (fun b hb => hbel.block b hb.2)).mono (fun b hb => by omega)
      have hkP : k < P.length := by rw [HLen.out]; exact hlt
      obtain ⟨ad, rfl, hadb, hcc⟩ := hrd (by intro e; have : P = [] := List.map_eq_nil_iff.1 e; rw [this] at hkP; simp at hkP)
      have hrd1 : RdC (· < wr.heap.size) wr (some (ad.add k)) (bvs [P[k]]) := by
        have hr := (hrd.drop k false (by simp)).take 1
        rw [show (if false = true then some ad else (some ad : Option Addr).map (·.add k)) = some (ad.add k) by simp] at hr
        have e : ((bvs P).drop k).take 1 = bvs [P[k]] := by unfold bvs; rw [← List.map_drop, ← List.map_take, List.drop_eq_getElem_cons hkP]; rfl
        rwa [e] at hr
      have hh : heldAck P k = P.take k := if_neg (by omega)
      have hap : heldAck P k ++ [P[k]] = P.take (k + 1) := by rw [hh, List.take_succ_eq_append_getElem hkP]
      have hfe := feed_any es w2.heap.size wr w2.heap.size v (heldAck P k) [P[k]] (some (ad.add k)) 1 w HE.out (HB2.out.trans (hbel.mono hz2)) hz2 hs hrd1 (by rw [hh, List.length_take]; simp; omega)
      unfold FeedP at hfe
      rw [hap] at hfe
      have HFe := Lib.hid hfe
      have j0 : (0 : Int) ≤ (k : Int) := by omega
      have j1 : (k : Int) < 15 := by omega
      have j2 : IntKind.i64.wrap ((k : Int) + 1) = (k : Int) + 1 := IntWalk.i64_in _ (by omega)
      have j5 : (k : Int) + 1 ≤ (c : Int) := by omega
      clear hs hrd hrd1 hcc hfe hbel
      go_wp2_with fail
      refine HFe.out.mono ?_
      rintro e w4 ⟨L, cs, hown, hfr, hch, hres⟩
      have hB4 : Below w2.heap.size w2 w4 := HBel.out.trans (hch.below hzr (fun i hi e => by
        rcases e with rfl | e
        · exact Nat.le_refl _
        · exact own_base HS.out.own i e.symm))
      have HB4 := Lib.hid hB4
      by_cases h15 : k + 1 = 15
      · have hkk : k = 14 := by omega
        subst hkk
        rw [show P.take (14 + 1) = P from List.take_of_length_le (by rw [HLen.out]; omega), HAll.out] at hown hfr hres
        simp only at hown hfr hres
        obtain ⟨AL, cL, rfl, hcL, _⟩ := own_slice hown
        obtain ⟨gd, A1, c1, rfl, hgd, hf1, _⟩ := hfr.at (RdC.of_own hown) 0 (by simp)
        obtain ⟨f0, f1, f2, f3, f4, f5, f6, f7, f8, f9⟩ := hf1
        rw [show gd.add (0 * 10) = gd by unfold Addr.add; simp] at f2
        simp only [List.getElem_cons_zero] at f2
        have hf2 : w4.cell? ⟨gd.block, gd.off + 2, none⟩ = some (.int .i64 7) := f2
        rcases hres with ⟨_, rfl, v', hsc, _⟩ | ⟨h, _⟩
        · have HSc := Lib.hid hsc
          clear hown hfr hch hsc hB4 f0 f1 f2 f3 f4 f5 f6 f7 f8 f9
          rw [show cntAck 14 = 0 from rfl]
          go_wp2_with fail
          refine ⟨⟨15, v', by omega, rfl, by rfl, ?_, HB4.out⟩, by simp [intOf]⟩
          have hs15 := HSc.out
          rw [List.drop_eq_nil_of_le (by rw [HLen.out]; omega)] at hs15
          exact hs15
        · cases h
      · rw [HCut.out (k + 1) (by omega)] at hown hfr hres
        simp only at hown hfr hres
        obtain ⟨AL, cL, rfl, hcL, _⟩ := own_slice hown
        rcases hres with ⟨_, rfl, v', hsc, _⟩ | ⟨h, _⟩
        · have HSc := Lib.hid hsc
          clear hown hfr hch hsc hB4
          rw [show cntAck k = 0 from if_neg (by omega)]
          go_wp2_with fail
          refine ⟨⟨k + 1, v', by omega, by go_num, ?_, ?_, HB4.out⟩, by simp [intOf]; omega⟩
          · rw [show cntAck (k + 1) = 0 from if_neg h15]
          · have hs15 := HSc.out
            rw [List.drop_zero] at hs15
            rw [show heldAck P (k + 1) = P.take (k + 1) from if_neg h15]
            exact hs15
        · cases h
    · have hk15 : k = 15 := by omega
      subst hk15
      have hsd : ScanAt w2.heap.size wr w2.heap.size v [] false := hs
      have hb5 := below_box wr (Obj.cells #[.int .u8 0, .int .u8 0] 5)
      obtain ⟨w5, hw5⟩ : ∃ W, W = wr.alloc (Obj.cells #[.int .u8 0, .int .u8 0] 5) := ⟨_, rfl⟩
      rw [← hw5] at hb5
      have hrd5 : RdC (· < w5.heap.size) w5 (some ⟨wr.heap.size, 0, none⟩) (bvs [0, 0]) := by
        rw [hw5]
        exact (RdC.new wr #[.int .u8 0, .int .u8 0] 5).mono (fun k hk => by rw [hk]; simp)
      have hz5 := hb5.size
      have hfe := feed_any es w2.heap.size w5 w2.heap.size v [] [0, 0] (some ⟨wr.heap.size, 0, none⟩) 2 w HE.out (HB2.out.trans ((hbel.trans (hb5.mono hzr)).mono hz2)) hz2 (hsd.on hb5) hrd5 (by simp)
      unfold FeedP at hfe
      rw [List.nil_append, scan_00] at hfe
      simp only at hfe
      have HFe := Lib.hid hfe
      have HW5 := Lib.hid hw5.symm
      have HS5 := Lib.hid (hsd.on hb5)
      have HB5 := Lib.hid (hbel.trans (hb5.mono hzr))
      have hc15 : cntAck 15 = 1 := rfl
      clear hs hsd hb5 hw5 hrd5 hfe hbel
      rw [hc15]
      go_wp2_with (rw [HW5.out])
      refine HFe.out.mono ?_
      rintro e w6 ⟨L, cs, hown, hfr, hch, hres⟩
      have hB6 : Below w2.heap.size w2 w6 := HB5.out.trans (hch.below HB5.out.size (fun i hi e => by
        rcases e with rfl | e
        · exact Nat.le_refl _
        · exact own_base HS5.out.own i e.symm))
      have HB6 := Lib.hid (HB2.out.trans (hB6.mono hz2))
      obtain ⟨AL, cL, rfl, hcL, _⟩ := own_slice hown
      rcases hres with ⟨h, _⟩ | ⟨_, rfl, hsc⟩
      · cases h
      · have HBr := Lib.hid (broken_any w2.heap.size w6 w2.heap.size _ _ true hsc)
        have he := ((HE.out.step HB6.out).frame).at
        unfold errV at he
        clear hown hfr hch hB6 hsc
        unfold errV
        go_wp2_with fail
        refine HBr.out.mono ?_
        rintro e w7 ⟨rfl, rfl⟩
        go_wp2_with fail
        go_ret
        exact ⟨rfl, HB6.out⟩
end Go.Proofs.YtpekagkhgegefaaDoor
