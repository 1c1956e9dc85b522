/- FieldsBack's walk. -/
import Derived.Test.YtkencpfmbcjppaaDoorLp
set_option linter.unusedVariables false
set_option linter.unusedSimpArgs false
set_option linter.unnecessarySimpa false
namespace Go.Proofs.YtkencpfmbcjppaaDoor
open Go.RowKit
attribute [local go_sem] run_store_flt cellV errV
theorem ne_int {l m : UInt8} (h : ¬ l = m) : ¬ ((l.toNat : Nat) : Int) = ((m.toNat : Nat) : Int) := fun e => h (UInt8.toNat_inj.1 (by omega))

set_option maxRecDepth 4000 in
set_option maxHeartbeats 1000000 in
theorem back_erer (es : Er → Addr) (w : World) (s : ByteArray) (A A2 : Option Addr) (c c2 : Nat) (cells : List Cell) (b : Bs) (er : Er) (er2 : Er) (hE : E5 w.heap.size w es) (hs : s.size ≤ 2000000) (hcl : cells.length ≤ 2000000) (hb : b.length ≤ 2000000) (hc2 : b.length ≤ c2)
    (hcost : cost cells ≤ 100000000) (hnum : ∀ c ∈ cells, c.f < 18446744073709551616 ∧ c.n ≤ 9223372036854775807) (hR : RdC (· < w.heap.size) w A (cells.flatMap cellVs)) (hR2 : RdC (· < w.heap.size) w A2 (bvs b))
    (h1 : encode s.data.toList cells = .error er) (h2 : decode s.data.toList b = .error er2) :
    Calls Tryd.prog 3 #[.string s, .slice A cells.length c, .slice A2 b.length c2] w (OkPost w) := by
  have H1 := Lib.hid h1
  have H2 := Lib.hid h2
  have HM := Lib.hid hnum
  clear h1 h2 hnum
  go_enter Tryd.func3, Tryd.ntmps3
  go_wp2_with fail
  refine (alive_any es w hE).mono ?_
  rintro e w0 ⟨rfl, hb0⟩
  have HE0 := Lib.hid (hE.step hb0)
  have HB0 := Lib.hid hb0
  have HR0 := Lib.hid (hR.step hb0)
  have HR20 := Lib.hid (hR2.step hb0)
  clear hb0 hE hR hR2
  go_wp2_with fail
  have hen := encode_any es w0 s A cells.length c cells rfl HE0.out HR0.out (by unfold maxLen; omega) (by unfold maxLen; omega) (by omega) (fun c hc => (HM.out c hc).2)
  rw [H1.out] at hen
  refine hen.mono ?_
  rintro e w1 ⟨hb1, rfl⟩
  have HE := Lib.hid (HE0.out.step hb1)
  have HB := Lib.hid (show Below w.heap.size w w1 from HB0.out.trans (hb1.mono HB0.out.size))
  have HRB := Lib.hid (HR20.out.step hb1)
  clear hb1 hen HE0 HB0 HR0 HR20
  have hde := decode_any es w1 s A2 b.length c2 b rfl HE.out HRB.out (by omega) hc2 (by omega)
  rw [H2.out] at hde
  have HDe := Lib.hid hde
  clear hde
  go_wp2_with fail
  refine HDe.out.mono ?_
  rintro e w8 ⟨hb8, rfl⟩
  have HB8 := Lib.hid (show Below w.heap.size w w8 from HB.out.trans (hb8.mono HB.out.size))
  clear hb8
  go_wp2
  go_ret
  exact ⟨rfl, HB8.out⟩
set_option maxRecDepth 4000 in
set_option maxHeartbeats 1000000 in
theorem back_erok (es : Er → Addr) (w : World) (s : ByteArray) (A A2 : Option Addr) (c c2 : Nat) (cells : List Cell) (b : Bs) (er : Er) (cs : List Cell) (hE : E5 w.heap.size w es) (hs : s.size ≤ 2000000) (hcl : cells.length ≤ 2000000) (hb : b.length ≤ 2000000) (hc2 : b.length ≤ c2)
    (hcost : cost cells ≤ 100000000) (hnum : ∀ c ∈ cells, c.f < 18446744073709551616 ∧ c.n ≤ 9223372036854775807) (hR : RdC (· < w.heap.size) w A (cells.flatMap cellVs)) (hR2 : RdC (· < w.heap.size) w A2 (bvs b))
    (h1 : encode s.data.toList cells = .error er) (h2 : decode s.data.toList b = .ok cs) :
    Calls Tryd.prog 3 #[.string s, .slice A cells.length c, .slice A2 b.length c2] w (OkPost w) := by
  obtain ⟨g1, g2, g3, g4⟩ := enc_dec h2
  have H4 := Lib.hid g1
  have HG := Lib.hid g3
  rw [show s.data.toList.length = s.size from Array.length_toList] at g2 g4
  have HG2 := Lib.hid g2
  clear g1 g2 g3
  have H1 := Lib.hid h1
  have H2 := Lib.hid h2
  have HM := Lib.hid hnum
  clear h1 h2 hnum
  go_enter Tryd.func3, Tryd.ntmps3
  go_wp2_with fail
  refine (alive_any es w hE).mono ?_
  rintro e w0 ⟨rfl, hb0⟩
  have HE0 := Lib.hid (hE.step hb0)
  have HB0 := Lib.hid hb0
  have HR0 := Lib.hid (hR.step hb0)
  have HR20 := Lib.hid (hR2.step hb0)
  clear hb0 hE hR hR2
  go_wp2_with fail
  have hen := encode_any es w0 s A cells.length c cells rfl HE0.out HR0.out (by unfold maxLen; omega) (by unfold maxLen; omega) (by omega) (fun c hc => (HM.out c hc).2)
  rw [H1.out] at hen
  refine hen.mono ?_
  rintro e w1 ⟨hb1, rfl⟩
  have HE := Lib.hid (HE0.out.step hb1)
  have HB := Lib.hid (show Below w.heap.size w w1 from HB0.out.trans (hb1.mono HB0.out.size))
  have HRB := Lib.hid (HR20.out.step hb1)
  clear hb1 hen HE0 HB0 HR0 HR20
  have hde := decode_any es w1 s A2 b.length c2 b rfl HE.out HRB.out (by omega) hc2 (by omega)
  rw [H2.out] at hde
  have HDe := Lib.hid hde
  clear hde
  go_wp2_with fail
  refine HDe.out.mono ?_
  rintro e w8 ⟨hb8, v8, rfl, hown8⟩
  obtain ⟨A8, c8, rfl, hc8, _⟩ := own_slice hown8
  have HE8 := Lib.hid (HE.out.step hb8)
  have HB8 := Lib.hid (show Below w.heap.size w w8 from HB.out.trans (hb8.mono HB.out.size))
  have HRB8 := Lib.hid (HRB.out.step hb8)
  have hrd8 : RdC (· < w8.heap.size) w8 A8 (cs.flatMap cellVs) := (RdC.of_own hown8).mono (fun _ h => h.2)
  have hen8 := encode_any es w8 s A8 cs.length c8 cs rfl HE8.out hrd8 (by unfold maxLen; omega) (by have := HG2.out; unfold maxLen; omega) (by omega) HG.out
  rw [H4.out] at hen8
  have HEn8 := Lib.hid hen8
  clear hb8 hown8 hrd8 hen8
  go_wp2_with fail
  refine HEn8.out.mono ?_
  rintro e w9 ⟨hb9, v9, rfl, hown9⟩
  obtain ⟨A9, c9, rfl, hc9, _⟩ := own_slice hown9
  have HB9 := Lib.hid (show Below w.heap.size w w9 from HB8.out.trans (hb9.mono HB8.out.size))
  have hs1 := run_str_of (P := Tryd.prog) (src := 23) (dst := 9) Tryd.underlying23 Tryd.underlying5 Tryd.underlying9 (c := c9) rfl (RdC.of_own hown9)
  have hs2 := run_str_of (P := Tryd.prog) (src := 23) (dst := 9) Tryd.underlying23 Tryd.underlying5 Tryd.underlying9 (c := c2) rfl (HRB8.out.step hb9)
  clear hb9 hown9
  go_wp2
  go_ret
  exact ⟨by simp, HB9.out⟩
set_option maxRecDepth 4000 in
set_option maxHeartbeats 1000000 in
theorem back_oker (es : Er → Addr) (w : World) (s : ByteArray) (A A2 : Option Addr) (c c2 : Nat) (cells : List Cell) (b : Bs) (bs : Bs) (er2 : Er) (hE : E5 w.heap.size w es) (hs : s.size ≤ 2000000) (hcl : cells.length ≤ 2000000) (hb : b.length ≤ 2000000) (hc2 : b.length ≤ c2)
    (hcost : cost cells ≤ 100000000) (hnum : ∀ c ∈ cells, c.f < 18446744073709551616 ∧ c.n ≤ 9223372036854775807) (hR : RdC (· < w.heap.size) w A (cells.flatMap cellVs)) (hR2 : RdC (· < w.heap.size) w A2 (bvs b))
    (h1 : encode s.data.toList cells = .ok bs) (h2 : decode s.data.toList b = .error er2) :
    Calls Tryd.prog 3 #[.string s, .slice A cells.length c, .slice A2 b.length c2] w (OkPost w) := by
  have h3 := dec_enc h1 hnum
  obtain ⟨hkn, hlen, hall⟩ := encode_ok h1
  have hbl := encAll_len _ _ _ hall
  rw [show s.data.toList.length = s.size from Array.length_toList] at hlen
  have hnl := norms_len s.data.toList cells (by rw [hlen]; exact Array.length_toList.symm)
  have H3 := Lib.hid h3
  have HLen := Lib.hid hlen
  have HNL := Lib.hid hnl
  clear h3 hkn hall hlen hnl
  have H1 := Lib.hid h1
  have H2 := Lib.hid h2
  have HM := Lib.hid hnum
  clear h1 h2 hnum
  go_enter Tryd.func3, Tryd.ntmps3
  go_wp2_with fail
  refine (alive_any es w hE).mono ?_
  rintro e w0 ⟨rfl, hb0⟩
  have HE0 := Lib.hid (hE.step hb0)
  have HB0 := Lib.hid hb0
  have HR0 := Lib.hid (hR.step hb0)
  have HR20 := Lib.hid (hR2.step hb0)
  clear hb0 hE hR hR2
  go_wp2_with fail
  have hen := encode_any es w0 s A cells.length c cells rfl HE0.out HR0.out (by unfold maxLen; omega) (by unfold maxLen; omega) (by omega) (fun c hc => (HM.out c hc).2)
  rw [H1.out] at hen
  refine hen.mono ?_
  rintro e w1 ⟨hb1, v1, rfl, hown1⟩
  obtain ⟨A1, c1, rfl, hc1, _⟩ := own_slice hown1
  have HE1 := Lib.hid (HE0.out.step hb1)
  have HB1 := Lib.hid (show Below w.heap.size w w1 from HB0.out.trans (hb1.mono HB0.out.size))
  have HR1 := Lib.hid (HR0.out.step hb1)
  have HR21 := Lib.hid (HR20.out.step hb1)
  have hrd1 : RdC (· < w1.heap.size) w1 A1 (bvs bs) := (RdC.of_own hown1).mono (fun _ h => h.2)
  have hde := decode_any es w1 s A1 bs.length c1 bs rfl HE1.out hrd1 (by omega) hc1 (by omega)
  rw [H3.out] at hde
  have HD := Lib.hid hde
  clear hb1 hen HE0 HB0 HR0 HR20 hde hrd1 hown1
  go_wp2_with fail
  refine HD.out.mono ?_
  rintro e w2 ⟨hb2, v2, rfl, hown2⟩
  obtain ⟨A3, c3, rfl, hc3, _⟩ := own_slice hown2
  have HE2 := Lib.hid (HE1.out.step hb2)
  have HB2 := Lib.hid (show Below w.heap.size w w2 from HB1.out.trans (hb2.mono HB1.out.size))
  have HR2 := Lib.hid (HR1.out.step hb2)
  have HR22 := Lib.hid (HR21.out.step hb2)
  have hrd2 : RdC (· < w2.heap.size) w2 A3 ((norms s.data.toList cells).flatMap cellVs) := (RdC.of_own hown2).mono (fun _ h => h.2)
  have HN2 := Lib.hid hrd2
  clear hb2 HD HE1 HB1 HR1 HR21 hrd2 hown2
  have hnl2 := HNL.out
  have hlen2 := HLen.out
  generalize hnc : norms s.data.toList cells = ns at *
  have HNc := Lib.hid hnc
  clear hnc
  go_wp2_with fail
  go_loopw [43] (fun i wr => ∃ k : Nat, k ≤ ns.length ∧ i = .int .i64 k ∧ Below w2.heap.size w2 wr) (fun i _ => ns.length - (intOf i).toNat)
  case atStart => exact ⟨0, Nat.zero_le _, rfl, Below.refl _ _⟩
  case round =>
    obtain ⟨k, hk1, rfl, hbel⟩ := hrel
    by_cases hlt : k < ns.length
    · have hkc : k < cells.length := by omega
      have hks : k < s.size := by omega
      have hkl : k < s.data.toList.length := by rw [show s.data.toList.length = s.size from Array.length_toList]; omega
      have i0 : (0 : Int) ≤ (k : Int) := by omega
      have i1 : (k : Int) < (ns.length : Int) := by omega
      have i2 : (k : Int) < (cells.length : Int) := by omega
      have i3 : (k : Int) < (s.size : Int) := by omega
      obtain ⟨ad, rfl, hadb, g0, g1, g2⟩ := cells_at (HR2.out.below hbel) k hkc
      obtain ⟨ad3, rfl, hadb3, k0, k1, k2⟩ := cells_at (HN2.out.below hbel) k hlt
      have hn : ns[k] = norm s[k] cells[k] := by
        have hnc := HNc.out
        subst hnc
        rw [norms_get s.data.toList cells k hkl hkc hlt]
        rfl
      rw [hn] at k0 k1 k2
      clear hn
      generalize cells[k] = cl at g0 g1 g2 k0 k1 k2
      unfold norm at k0 k1 k2
      have hfb := run_f64bits
      have i4 : IntKind.i64.wrap ((k : Int) + 1) = (k : Int) + 1 := IntWalk.i64_in _ (by omega)
      have HB3 := Lib.hid hbel
      clear hbel
      by_cases l1 : s[k] = 102
      · rw [if_pos l1] at k0 k1 k2
        have t1 : ((s[k].toNat : Nat) : Int) = 102 := by rw [l1]; rfl
        clear l1
        go_wp2_with fail
        go_quiet (fail)
        go_wp2_with fail
        go_roundw
        case rel => exact ⟨k + 1, by omega, by go_num, by first | exact below_drewN HB3.out _ | exact below_drewN (below_drewN HB3.out _) _⟩
        case measure => simp [intOf]; omega
      · rw [if_neg l1] at k0 k1 k2
        have n1 : ¬ ((s[k].toNat : Nat) : Int) = 102 := ne_int l1
        by_cases l2 : s[k] = 116
        · rw [if_pos (by rw [l2]; rfl)] at k0 k1 k2
          have t1 : ((s[k].toNat : Nat) : Int) = 116 := by rw [l2]; rfl
          clear l1 l2 n1
          go_wp2_with fail
          go_quiet (fail)
          go_wp2_with fail
          go_quiet (fail)
          go_wp2_with fail
          go_roundw
          case rel => exact ⟨k + 1, by omega, by go_num, by first | exact below_drewN HB3.out _ | exact below_drewN (below_drewN HB3.out _) _⟩
          case measure => simp [intOf]; omega
        · have n2 : ¬ ((s[k].toNat : Nat) : Int) = 116 := ne_int l2
          by_cases l3 : s[k] = 114
          · rw [if_pos (by rw [l3]; rfl)] at k0 k1 k2
            have t1 : ((s[k].toNat : Nat) : Int) = 114 := by rw [l3]; rfl
            clear l1 l2 l3 n1 n2
            go_wp2_with fail
            go_quiet (fail)
            go_wp2_with fail
            go_quiet (fail)
            go_wp2_with fail
            go_roundw
            case rel => exact ⟨k + 1, by omega, by go_num, by first | exact below_drewN HB3.out _ | exact below_drewN (below_drewN HB3.out _) _⟩
            case measure => simp [intOf]; omega
          · have n3 : ¬ ((s[k].toNat : Nat) : Int) = 114 := ne_int l3
            rw [if_neg (by unfold isText; simp [l2, l3])] at k0 k1 k2
            clear l1 l2 l3
            go_wp2_with fail
            go_quiet (fail)
            go_wp2_with fail
            go_roundw
            case rel => exact ⟨k + 1, by omega, by go_num, by first | exact below_drewN HB3.out _ | exact below_drewN (below_drewN HB3.out _) _⟩
            case measure => simp [intOf]; omega
    · have hge : ¬ ((k : Int) < (ns.length : Int)) := by omega
      have hge2 : ¬ ((k : Int) < (s.size : Int)) := by omega
      have HE := Lib.hid ((HE2.out.below hbel).more hbel.size)
      have HB := Lib.hid (show Below w.heap.size w wr from HB2.out.trans (hbel.mono HB2.out.size))
      have HRB := Lib.hid (HR22.out.step hbel)
      clear hbel HE2 HB2 HR22
      have hde := decode_any es wr s A2 b.length c2 b rfl HE.out HRB.out (by omega) hc2 (by omega)
      rw [H2.out] at hde
      have HDe := Lib.hid hde
      clear hde
      go_wp2_with fail
      refine HDe.out.mono ?_
      rintro e w8 ⟨hb8, rfl⟩
      have HB8 := Lib.hid (show Below w.heap.size w w8 from HB.out.trans (hb8.mono HB.out.size))
      clear hb8
      go_wp2
      go_ret
      exact ⟨rfl, HB8.out⟩
set_option maxRecDepth 4000 in
set_option maxHeartbeats 1000000 in
theorem back_okok (es : Er → Addr) (w : World) (s : ByteArray) (A A2 : Option Addr) (c c2 : Nat) (cells : List Cell) (b : Bs) (bs : Bs) (cs : List Cell) (hE : E5 w.heap.size w es) (hs : s.size ≤ 2000000) (hcl : cells.length ≤ 2000000) (hb : b.length ≤ 2000000) (hc2 : b.length ≤ c2)
    (hcost : cost cells ≤ 100000000) (hnum : ∀ c ∈ cells, c.f < 18446744073709551616 ∧ c.n ≤ 9223372036854775807) (hR : RdC (· < w.heap.size) w A (cells.flatMap cellVs)) (hR2 : RdC (· < w.heap.size) w A2 (bvs b))
    (h1 : encode s.data.toList cells = .ok bs) (h2 : decode s.data.toList b = .ok cs) :
    Calls Tryd.prog 3 #[.string s, .slice A cells.length c, .slice A2 b.length c2] w (OkPost w) := by
  obtain ⟨g1, g2, g3, g4⟩ := enc_dec h2
  have H4 := Lib.hid g1
  have HG := Lib.hid g3
  rw [show s.data.toList.length = s.size from Array.length_toList] at g2 g4
  have HG2 := Lib.hid g2
  clear g1 g2 g3
  have h3 := dec_enc h1 hnum
  obtain ⟨hkn, hlen, hall⟩ := encode_ok h1
  have hbl := encAll_len _ _ _ hall
  rw [show s.data.toList.length = s.size from Array.length_toList] at hlen
  have hnl := norms_len s.data.toList cells (by rw [hlen]; exact Array.length_toList.symm)
  have H3 := Lib.hid h3
  have HLen := Lib.hid hlen
  have HNL := Lib.hid hnl
  clear h3 hkn hall hlen hnl
  have H1 := Lib.hid h1
  have H2 := Lib.hid h2
  have HM := Lib.hid hnum
  clear h1 h2 hnum
  go_enter Tryd.func3, Tryd.ntmps3
  go_wp2_with fail
  refine (alive_any es w hE).mono ?_
  rintro e w0 ⟨rfl, hb0⟩
  have HE0 := Lib.hid (hE.step hb0)
  have HB0 := Lib.hid hb0
  have HR0 := Lib.hid (hR.step hb0)
  have HR20 := Lib.hid (hR2.step hb0)
  clear hb0 hE hR hR2
  go_wp2_with fail
  have hen := encode_any es w0 s A cells.length c cells rfl HE0.out HR0.out (by unfold maxLen; omega) (by unfold maxLen; omega) (by omega) (fun c hc => (HM.out c hc).2)
  rw [H1.out] at hen
  refine hen.mono ?_
  rintro e w1 ⟨hb1, v1, rfl, hown1⟩
  obtain ⟨A1, c1, rfl, hc1, _⟩ := own_slice hown1
  have HE1 := Lib.hid (HE0.out.step hb1)
  have HB1 := Lib.hid (show Below w.heap.size w w1 from HB0.out.trans (hb1.mono HB0.out.size))
  have HR1 := Lib.hid (HR0.out.step hb1)
  have HR21 := Lib.hid (HR20.out.step hb1)
  have hrd1 : RdC (· < w1.heap.size) w1 A1 (bvs bs) := (RdC.of_own hown1).mono (fun _ h => h.2)
  have hde := decode_any es w1 s A1 bs.length c1 bs rfl HE1.out hrd1 (by omega) hc1 (by omega)
  rw [H3.out] at hde
  have HD := Lib.hid hde
  clear hb1 hen HE0 HB0 HR0 HR20 hde hrd1 hown1
  go_wp2_with fail
  refine HD.out.mono ?_
  rintro e w2 ⟨hb2, v2, rfl, hown2⟩
  obtain ⟨A3, c3, rfl, hc3, _⟩ := own_slice hown2
  have HE2 := Lib.hid (HE1.out.step hb2)
  have HB2 := Lib.hid (show Below w.heap.size w w2 from HB1.out.trans (hb2.mono HB1.out.size))
  have HR2 := Lib.hid (HR1.out.step hb2)
  have HR22 := Lib.hid (HR21.out.step hb2)
  have hrd2 : RdC (· < w2.heap.size) w2 A3 ((norms s.data.toList cells).flatMap cellVs) := (RdC.of_own hown2).mono (fun _ h => h.2)
  have HN2 := Lib.hid hrd2
  clear hb2 HD HE1 HB1 HR1 HR21 hrd2 hown2
  have hnl2 := HNL.out
  have hlen2 := HLen.out
  generalize hnc : norms s.data.toList cells = ns at *
  have HNc := Lib.hid hnc
  clear hnc
  go_wp2_with fail
  go_loopw [43] (fun i wr => ∃ k : Nat, k ≤ ns.length ∧ i = .int .i64 k ∧ Below w2.heap.size w2 wr) (fun i _ => ns.length - (intOf i).toNat)
  case atStart => exact ⟨0, Nat.zero_le _, rfl, Below.refl _ _⟩
  case round =>
    obtain ⟨k, hk1, rfl, hbel⟩ := hrel
    by_cases hlt : k < ns.length
    · have hkc : k < cells.length := by omega
      have hks : k < s.size := by omega
      have hkl : k < s.data.toList.length := by rw [show s.data.toList.length = s.size from Array.length_toList]; omega
      have i0 : (0 : Int) ≤ (k : Int) := by omega
      have i1 : (k : Int) < (ns.length : Int) := by omega
      have i2 : (k : Int) < (cells.length : Int) := by omega
      have i3 : (k : Int) < (s.size : Int) := by omega
      obtain ⟨ad, rfl, hadb, g0, g1, g2⟩ := cells_at (HR2.out.below hbel) k hkc
      obtain ⟨ad3, rfl, hadb3, k0, k1, k2⟩ := cells_at (HN2.out.below hbel) k hlt
      have hn : ns[k] = norm s[k] cells[k] := by
        have hnc := HNc.out
        subst hnc
        rw [norms_get s.data.toList cells k hkl hkc hlt]
        rfl
      rw [hn] at k0 k1 k2
      clear hn
      generalize cells[k] = cl at g0 g1 g2 k0 k1 k2
      unfold norm at k0 k1 k2
      have hfb := run_f64bits
      have i4 : IntKind.i64.wrap ((k : Int) + 1) = (k : Int) + 1 := IntWalk.i64_in _ (by omega)
      have HB3 := Lib.hid hbel
      clear hbel
      by_cases l1 : s[k] = 102
      · rw [if_pos l1] at k0 k1 k2
        have t1 : ((s[k].toNat : Nat) : Int) = 102 := by rw [l1]; rfl
        clear l1
        go_wp2_with fail
        go_quiet (fail)
        go_wp2_with fail
        go_roundw
        case rel => exact ⟨k + 1, by omega, by go_num, by first | exact below_drewN HB3.out _ | exact below_drewN (below_drewN HB3.out _) _⟩
        case measure => simp [intOf]; omega
      · rw [if_neg l1] at k0 k1 k2
        have n1 : ¬ ((s[k].toNat : Nat) : Int) = 102 := ne_int l1
        by_cases l2 : s[k] = 116
        · rw [if_pos (by rw [l2]; rfl)] at k0 k1 k2
          have t1 : ((s[k].toNat : Nat) : Int) = 116 := by rw [l2]; rfl
          clear l1 l2 n1
          go_wp2_with fail
          go_quiet (fail)
          go_wp2_with fail
          go_quiet (fail)
          go_wp2_with fail
          go_roundw
          case rel => exact ⟨k + 1, by omega, by go_num, by first | exact below_drewN HB3.out _ | exact below_drewN (below_drewN HB3.out _) _⟩
          case measure => simp [intOf]; omega
        · have n2 : ¬ ((s[k].toNat : Nat) : Int) = 116 := ne_int l2
          by_cases l3 : s[k] = 114
          · rw [if_pos (by rw [l3]; rfl)] at k0 k1 k2
            have t1 : ((s[k].toNat : Nat) : Int) = 114 := by rw [l3]; rfl
            clear l1 l2 l3 n1 n2
            go_wp2_with fail
            go_quiet (fail)
            go_wp2_with fail
            go_quiet (fail)
            go_wp2_with fail
            go_roundw
            case rel => exact ⟨k + 1, by omega, by go_num, by first | exact below_drewN HB3.out _ | exact below_drewN (below_drewN HB3.out _) _⟩
            case measure => simp [intOf]; omega
          · have n3 : ¬ ((s[k].toNat : Nat) : Int) = 114 := ne_int l3
            rw [if_neg (by unfold isText; simp [l2, l3])] at k0 k1 k2
            clear l1 l2 l3
            go_wp2_with fail
            go_quiet (fail)
            go_wp2_with fail
            go_roundw
            case rel => exact ⟨k + 1, by omega, by go_num, by first | exact below_drewN HB3.out _ | exact below_drewN (below_drewN HB3.out _) _⟩
            case measure => simp [intOf]; omega
    · have hge : ¬ ((k : Int) < (ns.length : Int)) := by omega
      have hge2 : ¬ ((k : Int) < (s.size : Int)) := by omega
      have HE := Lib.hid ((HE2.out.below hbel).more hbel.size)
      have HB := Lib.hid (show Below w.heap.size w wr from HB2.out.trans (hbel.mono HB2.out.size))
      have HRB := Lib.hid (HR22.out.step hbel)
      clear hbel HE2 HB2 HR22
      have hde := decode_any es wr s A2 b.length c2 b rfl HE.out HRB.out (by omega) hc2 (by omega)
      rw [H2.out] at hde
      have HDe := Lib.hid hde
      clear hde
      go_wp2_with fail
      refine HDe.out.mono ?_
      rintro e w8 ⟨hb8, v8, rfl, hown8⟩
      obtain ⟨A8, c8, rfl, hc8, _⟩ := own_slice hown8
      have HE8 := Lib.hid (HE.out.step hb8)
      have HB8 := Lib.hid (show Below w.heap.size w w8 from HB.out.trans (hb8.mono HB.out.size))
      have HRB8 := Lib.hid (HRB.out.step hb8)
      have hrd8 : RdC (· < w8.heap.size) w8 A8 (cs.flatMap cellVs) := (RdC.of_own hown8).mono (fun _ h => h.2)
      have hen8 := encode_any es w8 s A8 cs.length c8 cs rfl HE8.out hrd8 (by unfold maxLen; omega) (by have := HG2.out; unfold maxLen; omega) (by omega) HG.out
      rw [H4.out] at hen8
      have HEn8 := Lib.hid hen8
      clear hb8 hown8 hrd8 hen8
      go_wp2_with fail
      refine HEn8.out.mono ?_
      rintro e w9 ⟨hb9, v9, rfl, hown9⟩
      obtain ⟨A9, c9, rfl, hc9, _⟩ := own_slice hown9
      have HB9 := Lib.hid (show Below w.heap.size w w9 from HB8.out.trans (hb9.mono HB8.out.size))
      have hs1 := run_str_of (P := Tryd.prog) (src := 23) (dst := 9) Tryd.underlying23 Tryd.underlying5 Tryd.underlying9 (c := c9) rfl (RdC.of_own hown9)
      have hs2 := run_str_of (P := Tryd.prog) (src := 23) (dst := 9) Tryd.underlying23 Tryd.underlying5 Tryd.underlying9 (c := c2) rfl (HRB8.out.step hb9)
      clear hb9 hown9
      go_wp2
      go_ret
      exact ⟨by simp, HB9.out⟩
theorem back_walk (es : Er → Addr) (w : World) (s : ByteArray) (A A2 : Option Addr) (n c n2 c2 : Nat) (cells : List Cell) (b : Bs) (hE : E5 w.heap.size w es) (hs : s.size ≤ 2000000) (hn : n = cells.length) (hcl : cells.length ≤ 2000000) (hn2 : n2 = b.length) (hb : b.length ≤ 2000000) (hc2 : b.length ≤ c2)
    (hcost : cost cells ≤ 100000000) (hnum : ∀ c ∈ cells, c.f < 18446744073709551616 ∧ c.n ≤ 9223372036854775807) (hR : RdC (· < w.heap.size) w A (cells.flatMap cellVs)) (hR2 : RdC (· < w.heap.size) w A2 (bvs b)) :
    Calls Tryd.prog 3 #[.string s, .slice A n c, .slice A2 n2 c2] w (OkPost w) := by
  subst hn hn2
  cases h1 : encode s.data.toList cells with
  | error er =>
    cases h2 : decode s.data.toList b with
    | error er2 => exact back_erer es w s A A2 c c2 cells b er er2 hE hs hcl hb hc2 hcost hnum hR hR2 h1 h2
    | ok cs => exact back_erok es w s A A2 c c2 cells b er cs hE hs hcl hb hc2 hcost hnum hR hR2 h1 h2
  | ok bs =>
    cases h2 : decode s.data.toList b with
    | error er2 => exact back_oker es w s A A2 c c2 cells b bs er2 hE hs hcl hb hc2 hcost hnum hR hR2 h1 h2
    | ok cs => exact back_okok es w s A A2 c c2 cells b bs cs hE hs hcl hb hc2 hcost hnum hR hR2 h1 h2
end Go.Proofs.YtkencpfmbcjppaaDoor
