/- Walk of the statement ProofTells, way c of four. -/
import Derived.Test.YtnnokbipcenbgaaDoorPt
set_option linter.unusedVariables false
set_option linter.unusedSimpArgs false
set_option linter.unnecessarySimpa false
namespace Go.Proofs.YtnnokbipcenbgaaDoor
open Go.RowKit

set_option maxRecDepth 8000 in
set_option maxHeartbeats 12800000 in
theorem tells_walk_c (es : Er → Addr) (w : World) (K N R : Option Addr) (kc nc rc : Nat) (key nonce by_ : Bs) (who : ByteArray) (n : Int) (hE : PEnv w es) (hE18 : E18 w.heap.size w es) (hK : RdC (· < w.heap.size) w K (bvs key)) (hkc : key.length ≤ kc)
    (hN : RdC (· < w.heap.size) w N (bvs nonce)) (hR : RdC (· < w.heap.size) w R (bvs by_))
    (hla : key.length ≤ 9223372036854775807) (hlb : nonce.length ≤ 9223372036854775807) (hls : who.size ≤ 9223372036854775807) (hld : by_.length ≤ 9223372036854775807)
    (o1 : resO (nonceR key n) = some .range ∧ resB (nonceR key n) = false) (o3 : resO (ticketR key who.data.toList n) = none ∧ resB (ticketR key who.data.toList n) = true) :
    Calls Tryd.prog 5 #[.agg #[.slice K key.length kc, .slice N nonce.length nc, .string who, .int .i64 n, .slice R by_.length rc]] w (OkPost10 w) := by
  have hbx := below_box w (Obj.cells #[.slice K key.length kc, .slice N nonce.length nc, .string who, .int .i64 n, .slice R by_.length rc] 24)
  have hcx := CaseC.box w (.slice K key.length kc) (.slice N nonce.length nc) (.string who) (.int .i64 n) (.slice R by_.length rc) 24
  have hsx : (w.alloc (Obj.cells #[.slice K key.length kc, .slice N nonce.length nc, .string who, .int .i64 n, .slice R by_.length rc] 24)).heap.size = w.heap.size + 1 := by simp
  have hal := alive10 es _ (hE.step hbx)
  have HE := Lib.hid hE
  have HE18 := Lib.hid hE18
  have HK := Lib.hid hK
  have HN := Lib.hid hN
  have HR := Lib.hid hR
  have HBx := Lib.hid hbx
  have HCx := Lib.hid hcx
  have HSx := Lib.hid hsx
  have HAl := Lib.hid hal
  clear hE hE18 hK hN hR hbx hcx hsx hal
  go_enter Tryd.func5, Tryd.ntmps5
  go_wp2_with fail
  refine HAl.out.mono ?_
  rintro e w1 ⟨rfl, hb1⟩
  have HB1 := Lib.hid (below_on HBx.out hb1)
  have hc1 := HCx.out.on (by rw [HSx.out]; omega) hb1
  have hg : w.heap.size < w1.heap.size := by have := hb1.size; have := HSx.out; omega
  have HC1 := Lib.hid hc1
  clear hb1 HAl HCx HSx HBx
  obtain ⟨c0, c1, c2, c3, c4⟩ := hc1
  go_wp2_with fail
  refine (long_any w1 K N R _ _ _ kc nc rc who n hla hlb hls hld).mono ?_
  rintro e w2 ⟨lv, rfl, hlong, hb2⟩
  clear c0 c1 c2 c3 c4
  have HR2 := Lib.hid hb2
  have HL := Lib.hid hlong
  clear hlong hb2
  cases lv with
  | true =>
    go_wp2_with fail
    go_ret
    exact ⟨rfl, below_on HB1.out HR2.out⟩
  | false =>
    obtain ⟨l1, l2, l3, l4⟩ := HL.out rfl
    have HB02 := Lib.hid (below_on HB1.out HR2.out)
    have HC2 := Lib.hid (HC1.out.on hg HR2.out)
    have hg2 : w.heap.size < w2.heap.size := Nat.lt_of_lt_of_le hg HR2.out.size
    clear HL HC1 hg HB1 HR2
    go_wp2_with fail
    refine (new_any w2).mono ?_
    rintro e w3 ⟨H, va, vb, rfl, hT, hb3⟩
    have HT := Lib.hid hT
    have HC3 := Lib.hid (HC2.out.on hg2 hb3)
    have HB3 := Lib.hid (below_on HB02.out hb3)
    have hg3 : w.heap.size < w3.heap.size := Nat.lt_of_lt_of_le hg2 hb3.size
    clear hT hb3 HC2 hg2 HB02
    go_wp2_with fail
    have b1 : ∀ W, Below w3.heap.size w3 W → Calls Tryd.prog 14 #[.slice K key.length kc] W (BytesPost W key) := fun W hb => bytes_any W K key.length kc key rfl (by omega) ((HK.out.step HB3.out).step hb)
    have b2 : ∀ W, Below w3.heap.size w3 W → Calls Tryd.prog 14 #[.slice N nonce.length nc] W (BytesPost W nonce) := fun W hb => bytes_any W N nonce.length nc nonce rfl (by omega) ((HN.out.step HB3.out).step hb)
    have b3 : ∀ W, Below w3.heap.size w3 W → Calls Tryd.prog 14 #[.slice R by_.length rc] W (BytesPost W by_) := fun W hb => bytes_any W R by_.length rc by_ rfl (by omega) ((HR.out.step HB3.out).step hb)
    have Q1 := Lib.hid b1
    have Q2 := Lib.hid b2
    have Q3 := Lib.hid b3
    clear b1 b2 b3
    apply cut7 (F := fun W A1 c1 A2 c2 A3 c3 => Got3 w3 W key nonce by_ A1 c1 A2 c2 A3 c3)
    · intro hrest
      have HRest := Lib.hid hrest
      have hc : Below w3.heap.size w3 w3.drew := (Below.refl _ _).drew
      have hkeep : ∀ W, Below w3.heap.size w3 W → W.cell? ⟨w.heap.size, 0, none⟩ = some (.slice K key.length kc) ∧ W.cell? ⟨w.heap.size, 1, none⟩ = some (.slice N nonce.length nc) ∧ W.cell? ⟨w.heap.size, 4, none⟩ = some (.slice R by_.length rc) := fun W hb => by
        have hq := HC3.out.on hg3 hb
        exact ⟨hq.c0, hq.c1, hq.c4⟩
      have HKeep := Lib.hid hkeep
      clear hrest hkeep
      go_region_held (fun W => W.cell? ⟨w.heap.size, 0, none⟩ = some (.slice K key.length kc) ∧ W.cell? ⟨w.heap.size, 1, none⟩ = some (.slice N nonce.length nc) ∧ W.cell? ⟨w.heap.size, 4, none⟩ = some (.slice R by_.length rc))
        (exact HKeep.out _ (by assumption))
        (first
          | (go_at_call 14; (with_reducible refine (Q1.out _ (by assumption)).mono ?_); rintro e wk ⟨hbk, A1, c1, rfl, hck, _, hrk⟩; have hcB := below_on (w := w3) (by assumption) hbk)
          | (go_at_call 14; (with_reducible refine (Q2.out _ (by assumption)).mono ?_); rintro e wn ⟨hbn, A2, c2, rfl, hcn, _, hrn⟩; have hcC := below_on (w := w3) (by assumption) hbn)
          | (go_at_call 14; (with_reducible refine (Q3.out _ (by assumption)).mono ?_); rintro e wr ⟨hbr, A3, c3, rfl, hcr, _, hrr⟩; have hcD := below_on (w := w3) (by assumption) hbr))
      all_goals (
        have gk := hrk.mono (ok' := (· < wk.heap.size)) fun _ h => h.2
        have gn := hrn.mono (ok' := (· < wn.heap.size)) fun _ h => h.2
        have gr := hrr.mono (ok' := (· < wr.heap.size)) fun _ h => h.2
        clear hrk hrn hrr
        first
          | exact HRest.out wr A1 c1 A2 c2 A3 c3 ⟨hcD, hck, hcn, hcr, by first | exact (gk.step hbn).step hbr | exact gk.step hbr, by first | exact gn.step hbr | exact (gn.step hbk).step hbr, gr⟩
          | exact HRest.out wn A1 c1 A2 c2 A3 c3 ⟨hcC, hck, hcn, hcr, by first | exact (gk.step hbr).step hbn | exact gk.step hbn, gn, by first | exact gr.step hbn | exact (gr.step hbk).step hbn⟩
          | exact HRest.out wk A1 c1 A2 c2 A3 c3 ⟨hcB, hck, hcn, hcr, gk, by first | exact gn.step hbk | exact (gn.step hbr).step hbk, by first | exact gr.step hbk | exact (gr.step hbn).step hbk⟩)
    · intro W A1 c1 A2 c2 A3 c3 hgot
      clear Q1 Q2 Q3
      have HG := Lib.hid hgot
      clear hgot
      obtain ⟨W0, hW0⟩ : ∃ x, x = W := ⟨_, rfl⟩
      have HB := Lib.hid (below_on HB3.out HG.out.b)
      have HE0 := Lib.hid (HE.out.step HB.out)
      have r1 := HG.out.r1.bytesFront
      have r2 := HG.out.r2.bytesFront
      have r3 := HG.out.r3.bytesFront
      have HC := Lib.hid (HC3.out.on hg3 HG.out.b)
      have HTW := Lib.hid (HT.out.below HG.out.b)
      have hgW : w.heap.size < W.heap.size := Nat.lt_of_lt_of_le hg3 HG.out.b.size
      have kk1 := HG.out.k1
      have kk2 := HG.out.k2
      have kk3 := HG.out.k3
      have hn1 := (nonce_any es W A1 c1 key n HE0.out r1 (by omega)).mono fun e w' h => uni_arr h (by omega)
      have HN1 := Lib.hid hn1
      have HRa := Lib.hid r1
      have HRb := Lib.hid r2
      have HRc := Lib.hid r3
      have HXW := Lib.hid (Below.refl W.heap.size W)
      clear r1 r2 r3 hn1 hW0
      obtain ⟨c0, c1', c2', c3', c4⟩ := HC.out
      go_wp2_with fail
      refine HN1.out.mono ?_
      rintro e u1 ⟨Aa, ca, rfl, hra, hb⟩
      have HXu1 := Lib.hid hb
      have Ra1 := Lib.hid hra
      clear hra hb c0 c1' c2' c3' c4
      have hq1 := (prove_any es u1 A1 A2 c1 c2 key nonce who (HE0.out.step HXu1.out) (HRa.out.step HXu1.out) (by omega) (HRb.out.step HXu1.out)).mono fun e w' h => uni_arr h (by omega)
      have HQ1 := Lib.hid hq1
      clear hq1
      obtain ⟨c0, c1', c2', c3', c4⟩ := HC.out.on hgW HXu1.out
      go_wp2_with fail
      refine HQ1.out.mono ?_
      rintro e u2 ⟨Ab, cb, rfl, hr, hb⟩
      have HXu2 := Lib.hid (below_on HXu1.out hb)
      have Ra2 := Lib.hid (Ra1.out.step hb)
      have Rb2 := Lib.hid hr
      clear hr hb c0 c1' c2' c3' c4 HQ1 Ra1
      have hq2 := (Ticket_any es u2 A1 c1 key who n (HE0.out.step HXu2.out) (HRa.out.step HXu2.out) (by omega)).mono fun e w' h => uni_row h
      have HQ2 := Lib.hid hq2
      clear hq2
      obtain ⟨c0, c1', c2', c3', c4⟩ := HC.out.on hgW HXu2.out
      go_wp2_with fail
      refine HQ2.out.mono ?_
      rintro e u3 ⟨Ac, cc, rfl, hr, hb⟩
      have HXu3 := Lib.hid (below_on HXu2.out hb)
      have Ra3 := Lib.hid (Ra2.out.step hb)
      have Rb3 := Lib.hid (Rb2.out.step hb)
      have Rc3 := Lib.hid hr
      clear hr hb c0 c1' c2' c3' c4 HQ2 Ra2 Rb2
      have hq3 := (Open_any es u3 A1 A3 c1 c3 key by_ who (HE0.out.step HXu3.out) (HRa.out.step HXu3.out) (by omega) (HRc.out.step HXu3.out) (by omega)).mono fun e w' h => uni_int h
      have HQ3 := Lib.hid hq3
      clear hq3
      obtain ⟨c0, c1', c2', c3', c4⟩ := HC.out.on hgW HXu3.out
      go_wp2_with fail
      refine HQ3.out.mono ?_
      rintro e u4 ⟨rfl, hb⟩
      have HXu4 := Lib.hid (below_on HXu3.out hb)
      have Ra4 := Lib.hid (Ra3.out.step hb)
      have Rb4 := Lib.hid (Rb3.out.step hb)
      have Rc4 := Lib.hid (Rc3.out.step hb)
      clear hb c0 c1' c2' c3' c4 HQ3 Ra3 Rb3 Rc3
      have hq4 := right_any10 es u4 A1 A2 A3 c1 c2 c3 key nonce by_ who (HE0.out.step HXu4.out) (HRa.out.step HXu4.out) (by omega) (HRb.out.step HXu4.out) (HRc.out.step HXu4.out) hld
      have HQ4 := Lib.hid hq4
      clear hq4
      obtain ⟨c0, c1', c2', c3', c4⟩ := HC.out.on hgW HXu4.out
      go_wp2_with fail
      refine HQ4.out.mono ?_
      rintro e u5 ⟨rfl, hb⟩
      have HXu5 := Lib.hid (below_on HXu4.out hb)
      have Ra5 := Lib.hid (Ra4.out.step hb)
      have Rb5 := Lib.hid (Rb4.out.step hb)
      have Rc5 := Lib.hid (Rc4.out.step hb)
      clear hb c0 c1' c2' c3' c4 HQ4 Ra4 Rb4 Rc4
      have hq5 := (rnonce_any u5 H va vb w2.heap.size K kc key n (HTW.out.below HXu5.out) (HK.out.step (below_on HB.out HXu5.out)) (by omega)).mono fun e w' h => uni_ref h
      have HQ5 := Lib.hid hq5
      clear hq5
      obtain ⟨c0, c1', c2', c3', c4⟩ := HC.out.on hgW HXu5.out
      go_wp2_with fail
      refine HQ5.out.mono ?_
      rintro e u6 ⟨Ad, cd, rfl, hr, hb⟩
      have HXu6 := Lib.hid (below_on HXu5.out hb)
      have Ra6 := Lib.hid (Ra5.out.step hb)
      have Rb6 := Lib.hid (Rb5.out.step hb)
      have Rc6 := Lib.hid (Rc5.out.step hb)
      have Rd6 := Lib.hid hr
      clear hr hb c0 c1' c2' c3' c4 HQ5 Ra5 Rb5 Rc5
      have hq6 := (rprove_any u6 H va vb w2.heap.size K N kc nc key nonce who (HTW.out.below HXu6.out) (HK.out.step (below_on HB.out HXu6.out)) (by omega) (HN.out.step (below_on HB.out HXu6.out))).mono fun e w' h => uni_ref h
      have HQ6 := Lib.hid hq6
      clear hq6
      obtain ⟨c0, c1', c2', c3', c4⟩ := HC.out.on hgW HXu6.out
      go_wp2_with fail
      refine HQ6.out.mono ?_
      rintro e u7 ⟨Ae, ce, rfl, hr, hb⟩
      have HXu7 := Lib.hid (below_on HXu6.out hb)
      have Ra7 := Lib.hid (Ra6.out.step hb)
      have Rb7 := Lib.hid (Rb6.out.step hb)
      have Rc7 := Lib.hid (Rc6.out.step hb)
      have Rd7 := Lib.hid (Rd6.out.step hb)
      have Re7 := Lib.hid hr
      clear hr hb c0 c1' c2' c3' c4 HQ6 Ra6 Rb6 Rc6 Rd6
      have hq7 := (rticket_any u7 H va vb w2.heap.size K kc key who n (HTW.out.below HXu7.out) (HK.out.step (below_on HB.out HXu7.out)) (by omega)).mono fun e w' h => uni_ref h
      have HQ7 := Lib.hid hq7
      clear hq7
      obtain ⟨c0, c1', c2', c3', c4⟩ := HC.out.on hgW HXu7.out
      go_wp2_with fail
      refine HQ7.out.mono ?_
      rintro e u8 ⟨Af, cf, rfl, hr, hb⟩
      have HXu8 := Lib.hid (below_on HXu7.out hb)
      have Ra8 := Lib.hid (Ra7.out.step hb)
      have Rb8 := Lib.hid (Rb7.out.step hb)
      have Rc8 := Lib.hid (Rc7.out.step hb)
      have Rd8 := Lib.hid (Rd7.out.step hb)
      have Re8 := Lib.hid (Re7.out.step hb)
      have Rf8 := Lib.hid hr
      clear hr hb c0 c1' c2' c3' c4 HQ7 Ra7 Rb7 Rc7 Rd7 Re7
      have hq8 := ropen_any u8 H va vb w2.heap.size K R kc rc key by_ who (HTW.out.below HXu8.out) (HK.out.step (below_on HB.out HXu8.out)) (by omega) (HR.out.step (below_on HB.out HXu8.out))
      have HQ8 := Lib.hid hq8
      clear hq8
      obtain ⟨c0, c1', c2', c3', c4⟩ := HC.out.on hgW HXu8.out
      go_wp2_with fail
      refine HQ8.out.mono ?_
      rintro e u9 ⟨rfl, hb⟩
      have HXu9 := Lib.hid (below_on HXu8.out hb)
      have Ra9 := Lib.hid (Ra8.out.step hb)
      have Rb9 := Lib.hid (Rb8.out.step hb)
      have Rc9 := Lib.hid (Rc8.out.step hb)
      have Rd9 := Lib.hid (Rd8.out.step hb)
      have Re9 := Lib.hid (Re8.out.step hb)
      have Rf9 := Lib.hid (Rf8.out.step hb)
      clear hb c0 c1' c2' c3' c4 HQ8 Ra8 Rb8 Rc8 Rd8 Re8 Rf8
      have hbw := below_on HB.out HXu9.out
      have hnum := num_any es u9 (resO (openR key who.data.toList by_)) (HE18.out.step hbw)
      have hcell := ((HE18.out.step hbw).at_ .range).cell
      simp only [erG] at hcell
      have HCell := Lib.hid hcell
      have HNum := Lib.hid hnum
      have HBW := Lib.hid hbw
      rw [openE_code, rightR_res]
      have o2 := res_cases (proveR key nonce who.data.toList) fun er h => proveR_er h
      clear hbw hnum hcell
      generalize codeV es (resO (openR key who.data.toList by_)) = v4 at *
      generalize code (resO (openR key who.data.toList by_)) = e4 at *
      generalize openV (openR key who.data.toList by_) = n4 at *
      generalize resD (nonceR key n) = da at *
      generalize resD (proveR key nonce who.data.toList) = db at *
      generalize resD (ticketR key who.data.toList n) = dc at *
      generalize resO (nonceR key n) = x1 at *
      generalize resO (proveR key nonce who.data.toList) = x2 at *
      generalize resO (ticketR key who.data.toList n) = x3 at *
      generalize resB (nonceR key n) = y1 at *
      generalize resB (proveR key nonce who.data.toList) = y2 at *
      generalize resB (ticketR key who.data.toList n) = y3 at *
      have f1 : (convert 22 9 (.slice Aa da.length ca)).run Tryd.prog u9 = .ok (.string ⟨da.toArray⟩) u9 := run_str_of Tryd.underlying22 Tryd.underlying5 Tryd.underlying9 rfl Ra9.out
      have f2 : (convert 22 9 (.slice Ad da.length cd)).run Tryd.prog u9 = .ok (.string ⟨da.toArray⟩) u9 := run_str_of Tryd.underlying22 Tryd.underlying5 Tryd.underlying9 rfl Rd9.out
      have f3 : (convert 22 9 (.slice Ab db.length cb)).run Tryd.prog u9 = .ok (.string ⟨db.toArray⟩) u9 := run_str_of Tryd.underlying22 Tryd.underlying5 Tryd.underlying9 rfl Rb9.out
      have f4 : (convert 22 9 (.slice Ae db.length ce)).run Tryd.prog u9 = .ok (.string ⟨db.toArray⟩) u9 := run_str_of Tryd.underlying22 Tryd.underlying5 Tryd.underlying9 rfl Re9.out
      have f5 : (convert 22 9 (.slice Ac dc.length cc)).run Tryd.prog u9 = .ok (.string ⟨dc.toArray⟩) u9 := run_str_of Tryd.underlying22 Tryd.underlying5 Tryd.underlying9 rfl Rc9.out
      have f6 : (convert 22 9 (.slice Af dc.length cf)).run Tryd.prog u9 = .ok (.string ⟨dc.toArray⟩) u9 := run_str_of Tryd.underlying22 Tryd.underlying5 Tryd.underlying9 rfl Rf9.out
      have hee := run_err_same
      have hdb : (db == by_) = true ∨ (db == by_) = false := by cases db == by_ <;> simp
      clear HN1
      obtain ⟨rfl, rfl⟩ := o1
      obtain ⟨rfl, rfl⟩ := o3
      rcases o2 with ⟨rfl, rfl⟩ | ⟨rfl, rfl⟩ <;> rcases hdb with hdb | hdb <;> simp only [codeV, errV]
      all_goals (
        obtain ⟨c0, c1', c2', c3', c4⟩ := HC.out.on hgW HXu9.out
        have hcell := HCell.out
        go_wp2_with fail
        refine HNum.out.mono ?_
        rintro e u10 ⟨rfl, hb⟩
        clear f1 f2 f3 f4 f5 f6 c0 c1' c2' c3' c4 hcell
        have HX10 := Lib.hid (below_on HXu9.out hb)
        have g1 : (convert 22 9 (.slice Ae db.length ce)).run Tryd.prog u10 = .ok (.string ⟨db.toArray⟩) u10 := run_str_of Tryd.underlying22 Tryd.underlying5 Tryd.underlying9 rfl (Re9.out.step hb)
        have g2 : (convert 22 9 (.slice R by_.length rc)).run Tryd.prog u10 = .ok (.string ⟨by_.toArray⟩) u10 := run_str_of Tryd.underlying22 Tryd.underlying5 Tryd.underlying9 rfl (HR.out.step (below_on HB.out HX10.out))
        obtain ⟨c0, c1', c2', c3', c4⟩ := HC.out.on hgW HX10.out
        clear hb
        go_wp2_with fail
        refine (kept_any u10 A1 K key.length c1 kc key rfl (by omega) HG.out.k1 (HG.out.r1.step HX10.out) (HK.out.step (below_on HB.out HX10.out))).mono ?_
        rintro e u11 ⟨rfl, hb⟩
        clear g1 g2 c0 c1' c2' c3' c4
        have HX11 := Lib.hid (below_on HX10.out hb)
        obtain ⟨c0, c1', c2', c3', c4⟩ := HC.out.on hgW HX11.out
        clear hb
        go_wp2_with fail
        refine (kept_any u11 A2 N nonce.length c2 nc nonce rfl (by omega) HG.out.k2 (HG.out.r2.step HX11.out) (HN.out.step (below_on HB.out HX11.out))).mono ?_
        rintro e u12 ⟨rfl, hb⟩
        clear c0 c1' c2' c3' c4
        have HX12 := Lib.hid (below_on HX11.out hb)
        obtain ⟨c0, c1', c2', c3', c4⟩ := HC.out.on hgW HX12.out
        clear hb
        go_wp2_with fail
        refine (kept_any u12 A3 R by_.length c3 rc by_ rfl (by omega) HG.out.k3 (HG.out.r3.step HX12.out) (HR.out.step (below_on HB.out HX12.out))).mono ?_
        rintro e u13 ⟨rfl, hb⟩
        have HX13 := Lib.hid (below_on HX12.out hb)
        clear hb c0 c1' c2' c3' c4
        go_wp2_with fail
        go_ret
        exact ⟨rfl, below_on HB.out HX13.out⟩)
end Go.Proofs.YtnnokbipcenbgaaDoor
