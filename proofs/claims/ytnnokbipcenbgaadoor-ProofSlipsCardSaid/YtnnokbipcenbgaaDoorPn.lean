/- Walk of the statement ProofSlips. -/
import Derived.Test.YtnnokbipcenbgaaDoorPm
import Derived.Deep.RegionHeld
set_option linter.unusedVariables false
set_option linter.unusedSimpArgs false
set_option linter.unnecessarySimpa false
namespace Go.Proofs.YtnnokbipcenbgaaDoor
open Go.RowKit

theorem and_31 (z : Int) : ∃ k : Nat, k < 32 ∧ bits .and .i64 z 31 = (k : Int) := by
  refine ⟨(BitVec.ofInt 64 z &&& BitVec.ofInt 64 31).toNat, ?_, ?_⟩
  · rw [BitVec.toNat_and]
    exact Nat.lt_of_le_of_lt Nat.and_le_right (by decide)
  · have h : (BitVec.ofInt 64 z &&& BitVec.ofInt 64 31).toNat < 32 := by
      rw [BitVec.toNat_and]
      exact Nat.lt_of_le_of_lt Nat.and_le_right (by decide)
    show IntKind.i64.wrap ((BitVec.ofInt 64 z &&& BitVec.ofInt 64 31).toNat : Int) = _
    exact IntWalk.i64_in _ (by omega)
theorem xor_same (x t : UInt8) : x ^^^ t = x ↔ t = 0 := by
  constructor
  · intro h
    have := congrArg (fun y => x ^^^ y) h
    simpa [← UInt8.xor_assoc] using this
  · rintro rfl; simp
theorem set_same (P : Bs) (k : Nat) (t : UInt8) (hk : k < P.length) : P = P.set k (P.getD k 0 ^^^ t) ↔ t = 0 := by
  constructor
  · intro h
    have h1 := congrArg (fun l : Bs => l.getD k 0) h
    simp [hk] at h1
    exact (xor_same P[k] t).1 h1.symm
  · rintro rfl
    simp [hk]
theorem proveR_cases (key nonce who : Bs) : (∃ d : Bs, d.length = 32 ∧ proveR key nonce who = .ok d) ∨ proveR key nonce who = .error .range := by
  by_cases hok : secretOk key = true ∧ nonce.length = 16 ∧ whoOk who = true
  · exact .inl ⟨_, proveB_len key nonce who, by unfold proveR; rw [if_pos hok]⟩
  · exact .inr (by unfold proveR; rw [if_neg hok])
theorem rightR_is {key nonce who d pr : Bs} (h : proveR key nonce who = .ok d) : rightR key nonce who pr = decide (d = pr) := by unfold rightR; rw [h]
/-- A row of bytes that is written at one place. -/
theorem row_set {w : World} {base n c : Nat} {A : Option Addr} {d : Bs} (h : w.ownsRow base 5 1 (.slice A n c) n (bvs d)) (hn : d.length = n) (h0 : 0 < n) :
    ∃ g, A = some ⟨g, 0, none⟩ ∧ base ≤ g ∧ (∀ j, j < n → w.cell? ⟨g, j, none⟩ = some (bv (d.getD j 0)) ∧ w.frozen? ⟨g, j, none⟩ = false) ∧
      ∀ j, j < n → ∀ y, RdC (fun b => b = g) (w.setCell ⟨g, j, none⟩ (bv y)) (some ⟨g, 0, none⟩) (bvs (d.set j y)) := by
  rcases h.2 with ⟨h1, h2⟩ | ⟨g, cap, cur, hv, hb, hg, hr⟩
  · injection h1 with _ h1
    omega
  · injection hv with hv _ _
    subst hv
    have hcell := h.cells (g := g) rfl
    have hadd : ∀ b j, (⟨b, 0, none⟩ : Addr).add j = ⟨b, j, none⟩ := fun b j => by unfold Addr.add; split <;> simp_all
    have hc : ∀ j, j < n → w.cell? ⟨g, j, none⟩ = some (bv (d.getD j 0)) := fun j hj => by
      have := hcell j (bv (d.getD j 0)) (by rw [bvs_get d j (by omega)]; simp [show j < d.length by omega])
      rw [hadd] at this
      exact this
    refine ⟨g, rfl, hb, fun j hj => ⟨hc j hj, by simp [World.frozen?, hg]⟩, fun j hj y _ => ⟨_, rfl, rfl, fun i u hu => ?_⟩⟩
    have hi : i < d.length := by
      have := (List.getElem?_eq_some_iff.1 hu).1
      simpa using this
    rw [hadd]
    rw [bvs_get _ _ (by simpa using hi)] at hu
    injection hu with hu
    subst hu
    by_cases hij : i = j
    · subst hij
      have hci := hc i hj
      simp [go_sem, hci]
    · have hci := hc i (by omega)
      have hij2 : j ≠ i := fun e => hij e.symm
      simp [go_sem, hci, hij, hij2, List.getElem_set_ne hij2, hi]
theorem openR_slip (key who : Bs) (u j : Nat) (t : UInt8) (hk : secretOk key = true) (hw : whoOk who = true) (hu : u ≤ 1099511627776) (hj : 8 ≤ j) (hj2 : j < 32) (ht : t ≠ 0) :
    openR key who ((ticketB key who u).set j ((ticketB key who u).getD j 0 ^^^ t)) = .error .proof := by
  have hfr : ((ticketB key who u).set j ((ticketB key who u).getD j 0 ^^^ t)).take 8 = (ticketB key who u).take 8 := by
    rw [List.take_set]
    exact List.set_eq_of_length_le (by rw [List.length_take]; omega)
  unfold openR
  rw [if_pos ⟨hk, hw⟩, hfr, ticketB_num key who u hu, if_neg]
  intro h
  exact ht ((set_same _ j t (by rw [ticketB_len]; exact hj2)).1 h.2.2.symm)
set_option maxRecDepth 8000 in
set_option maxHeartbeats 6400000 in
theorem slips_walk0 (es : Er → Addr) (w : World) (K N R : Option Addr) (kc nc rc : Nat) (key nonce by_ : Bs) (who : ByteArray) (n z : Int) (t : UInt8) (hE : PEnv w es) (hK : RdC (· < w.heap.size) w K (bvs key)) (hkc : key.length ≤ kc) (hN : RdC (· < w.heap.size) w N (bvs nonce))
    (hla : key.length ≤ 9223372036854775807) (hlb : nonce.length ≤ 9223372036854775807) (hls : who.size ≤ 9223372036854775807) (hld : by_.length ≤ 9223372036854775807) :
    Calls Tryd.prog 4 #[.agg #[.slice K key.length kc, .slice N nonce.length nc, .string who, .int .i64 n, .slice R by_.length rc], .int .i64 z, .int .u8 (t.toNat : Int)] w (OkPost10 w) := by
  have hbx := below_box w (Obj.cells #[.slice K key.length kc, .slice N nonce.length nc, .string who, .int .i64 n, .slice R by_.length rc] 24)
  have hcx := CaseC.box w (.slice K key.length kc) (.slice N nonce.length nc) (.string who) (.int .i64 n) (.slice R by_.length rc) 24
  have hsx : (w.alloc (Obj.cells #[.slice K key.length kc, .slice N nonce.length nc, .string who, .int .i64 n, .slice R by_.length rc] 24)).heap.size = w.heap.size + 1 := by simp
  have hal := alive10 es _ (hE.step hbx)
  have HE := Lib.hid hE
  have HK := Lib.hid hK
  have HN := Lib.hid hN
  have HBx := Lib.hid hbx
  have HCx := Lib.hid hcx
  have HSx := Lib.hid hsx
  have HAl := Lib.hid hal
  clear hE hK hbx hcx hsx hal hN
  go_enter Tryd.func4, Tryd.ntmps4
  go_wp2_with fail
  refine HAl.out.mono ?_
  rintro e w1 ⟨rfl, hb1⟩
  have HB1 := Lib.hid (below_on HBx.out hb1)
  have hc1 := HCx.out.on (by rw [HSx.out]; omega) hb1
  have hg : w.heap.size < w1.heap.size := by have := hb1.size; have := HSx.out; omega
  have HC1 := Lib.hid hc1
  clear hb1 HAl HCx HSx HBx
  obtain ⟨c0, c1, c2, c3, c4⟩ := hc1
  go_wp2_with fail
  refine (long_any w1 K N R _ _ _ kc nc rc who n hla hlb hls hld).mono ?_
  rintro e w2 ⟨lv, rfl, hlong, hb2⟩
  clear c0 c1 c2 c3 c4
  have HR2 := Lib.hid hb2
  have HL := Lib.hid hlong
  clear hlong hb2
  cases lv with
  | true =>
    go_wp2_with fail
    go_ret
    exact ⟨rfl, below_on HB1.out HR2.out⟩
  | false =>
    obtain ⟨l1, l2, l3, l4⟩ := HL.out rfl
    have HE1 := Lib.hid (HE.out.step HB1.out)
    have HK1 := Lib.hid (HK.out.step HB1.out)
    have HN1 := Lib.hid (HN.out.step HB1.out)
    clear HL
    have hp2 := prove_any es w2 K N kc nc key nonce who (HE1.out.step HR2.out) (HK1.out.step HR2.out) hkc (HN1.out.step HR2.out)
    rcases proveR_cases key nonce who.data.toList with ⟨P, hPl, hr⟩ | hr
    · rw [hr] at hp2
      have HP2 := Lib.hid hp2
      have HPr := Lib.hid hr
      have HPl := Lib.hid hPl
      clear hp2 hr hPl
      obtain ⟨c0, c1, c2, c3, c4⟩ := HC1.out.on hg HR2.out
      go_wp2_with fail
      refine HP2.out.mono ?_
      rintro e w3 ⟨hb3, v3, rfl, g, D, rfl, hg3, hba, hDl, hPD⟩
      have hPD2 : P = D := by rw [hPD]; exact List.take_of_length_le (by omega)
      subst hPD2
      clear hPD hDl
      have HR3 := Lib.hid (below_on HR2.out hb3)
      have hg31 : w1.heap.size ≤ g := Nat.le_trans HR2.out.size hg3
      have HBa := Lib.hid hba
      have hglt := hba.lt
      have kcs : ∀ W, Below w3.heap.size w3 W → W.cell? ⟨w.heap.size, 0, none⟩ = some (.slice K key.length kc) ∧ W.cell? ⟨w.heap.size, 1, none⟩ = some (.slice N nonce.length nc) ∧ W.cell? ⟨w.heap.size, 2, none⟩ = some (.string who) := fun W hb => by
        have := HC1.out.on hg (below_on HR3.out hb)
        exact ⟨this.c0, this.c1, this.c2⟩
      have kr : ∀ W, Below w3.heap.size w3 W → ∀ m, m = 32 ∨ m = 31 → Calls Tryd.prog 12 #[.slice K key.length kc, .slice N nonce.length nc, .string who, .slice (some ⟨g, 0, none⟩) m 32] W (RightP W (m == 32)) := fun W hb m hm => by
        have hb1 := below_on HR3.out hb
        rcases hm with rfl | rfl
        · have := right_any10 es W K N (some ⟨g, 0, none⟩) kc nc 32 key nonce P who (HE1.out.step hb1) (HK1.out.step hb1) hkc (HN1.out.step hb1) ((HBa.out.move (hb.block g hglt)).reads.mono fun k hk => by subst hk; exact Nat.lt_of_lt_of_le hglt hb.size) (by rw [HPl.out]; omega)
          rw [rightR_is HPr.out, decide_eq_true rfl, HPl.out] at this
          exact this
        · have hl31 : (P.take 31).length = 31 := by rw [List.length_take, HPl.out]; rfl
          have := right_any10 es W K N (some ⟨g, 0, none⟩) kc nc 32 key nonce (P.take 31) who (HE1.out.step hb1) (HK1.out.step hb1) hkc (HN1.out.step hb1) (by rw [bvs_take]; exact (((HBa.out.move (hb.block g hglt)).reads.take 31).mono fun k hk => by subst hk; exact Nat.lt_of_lt_of_le hglt hb.size)) (by rw [hl31]; omega)
          rw [rightR_is HPr.out, decide_eq_false (fun h => by have := congrArg List.length h; rw [hl31, HPl.out] at this; omega), hl31] at this
          exact this
      have KC := Lib.hid kcs
      have KR := Lib.hid kr
      have hcd : Below w3.heap.size w3 w3.drew := (Below.refl _ _).drew
      clear c0 c1 c2 c3 c4 hb3 hba kcs kr HP2
      go_wp2_with fail
      go_region_held3 (fun W => W.cell? ⟨w.heap.size, 0, none⟩ = some (.slice K key.length kc) ∧ W.cell? ⟨w.heap.size, 1, none⟩ = some (.slice N nonce.length nc) ∧ W.cell? ⟨w.heap.size, 2, none⟩ = some (.string who))
        (first | exact KC.out _ (by assumption) | exact KC.out _ (Below.refl _ _))
        ((go_at_call 12; refine (KR.out _ (by assumption) _ (by first | exact .inl rfl | exact .inr rfl)).mono ?_; rintro e w4 ⟨rfl, hb4⟩; have hc4 := below_on (w := w3) (by assumption) hb4))
      all_goals (
        have HR5 := Lib.hid (below_on HR3.out hc4)
        have HBa5 := Lib.hid (HBa.out.move (hc4.block g hglt))
        have hglt5 : g < w4.heap.size := Nat.lt_of_lt_of_le hglt hc4.size
        obtain ⟨k, hk32, hke⟩ := and_31 z
        have ce := HBa5.out.cell k (by rw [HPl.out]; exact hk32)
        have cf := HBa5.out.frozen k
        have j0 : (0 : Int) ≤ (k : Int) := by omega
        have j1 : (k : Int) < 32 := by omega
        have hset := HBa5.out.set k (P.getD k 0 ^^^ t)
        have hsame := set_same P k t (by rw [HPl.out]; exact hk32)
        have hlen : (P.set k (P.getD k 0 ^^^ t)).length = 32 := by rw [List.length_set]; exact HPl.out
        have hr7 := fun pr => rightR_is (pr := pr) HPr.out
        have HR7 := Lib.hid hr7
        unfold bv at ce
        generalize P.getD k 0 = x at *
        generalize P.set k (x ^^^ t) = P' at *
        have HSet := Lib.hid hset
        have HLen := Lib.hid hlen
        have hmain : (decide (P = P') = true ∧ ((t.toNat : Int) == 0) = true) ∨ (decide (P = P') = false ∧ ((t.toNat : Int) == 0) = false) := by
          by_cases ht0 : t = 0
          · exact .inl ⟨decide_eq_true (hsame.2 ht0), by rw [ht0]; rfl⟩
          · refine .inr ⟨decide_eq_false (fun h => ht0 (hsame.1 h)), ?_⟩
            rw [beq_eq_false_iff_ne]
            intro h
            apply ht0
            apply UInt8.toNat_inj.1
            have : t.toNat = 0 := by omega
            rw [this]; rfl
        have hlt5 : g < (w4.setCell ⟨g, k, none⟩ (bv (x ^^^ t))).heap.size := by simpa using hglt5
        have HKC := Lib.hid (HC1.out.on hg (HR5.out.setCell hg31 (bv (x ^^^ t)) : Below w1.heap.size w1 (w4.setCell ⟨g, k, none⟩ (bv (x ^^^ t)))))
        have HR6 := Lib.hid (HR5.out.setCell hg31 (bv (x ^^^ t)) : Below w1.heap.size w1 (w4.setCell ⟨g, k, none⟩ (bv (x ^^^ t))))
        clear hset hsame hlen hr7 hc4 hcd
        have hxb := xor_bv x t
        unfold bv at hxb
        rcases hmain with ⟨hd, hz0⟩ | ⟨hd, hz0⟩
        all_goals (
          have hr9 := right_any10 es (w4.setCell ⟨g, k, none⟩ (bv (x ^^^ t))) K N (some ⟨g, 0, none⟩) kc nc 32 key nonce P' who (HE1.out.step HR6.out) (HK1.out.step HR6.out) hkc (HN1.out.step HR6.out) (HSet.out.reads.mono fun b hb => by subst hb; exact hlt5) (by rw [HLen.out]; omega)
          rw [HR7.out, hd, HLen.out] at hr9
          have HR9 := Lib.hid hr9
          obtain ⟨c0, c1, c2, c3, c4⟩ := HKC.out
          have HXb := Lib.hid hxb
          clear hr9 hd hxb
          unfold bv at c0 c1 c2 c3 c4
          obtain ⟨d0, d1, d2, d3, d4⟩ := HC1.out.on hg HR5.out
          go_wp2_with fail
          rw [xor_bv]
          refine HR9.out.mono ?_
          rintro e w6 ⟨rfl, hb6⟩
          have HR8 := Lib.hid (below_on HR6.out hb6)
          clear c0 c1 c2 c3 c4 d0 d1 d2 d3 d4 hb6 ce cf hke j0 j1
          rcases ticketR_cases key who.data.toList n with ⟨u, hnu, hu, hk, hw, hr⟩ | hr
          · subst hnu
            have htk := Ticket_any es w6 K kc key who (u : Int) (HE1.out.step HR8.out) (HK1.out.step HR8.out) hkc
            rw [hr] at htk
            have HTk := Lib.hid htk
            have HDl := Lib.hid (ticketB_len key who.data.toList u)
            have HOk := Lib.hid (openR_ticket key who.data.toList u hk hw hu)
            have HSl := Lib.hid (fun j t => openR_slip key who.data.toList u j t hk hw hu)
            clear hr htk hk hw
            obtain ⟨c0, c1, c2, c3, c4⟩ := HC1.out.on hg HR8.out
            go_wp2_with fail
            refine HTk.out.mono ?_
            rintro e wt ⟨hbt, v, rfl, hv⟩
            clear c0 c1 c2 c3 c4 hz0
            unfold IsRow at hv
            rw [HDl.out] at hv
            obtain ⟨At, ct, rfl, hct, _⟩ := own_slice hv
            obtain ⟨gt, rfl, hgt, hcell, hset⟩ := row_set hv HDl.out (by omega)
            have HRt := Lib.hid (below_on HR8.out hbt)
            have HRd := Lib.hid ((RdC.of_own hv).mono (ok' := (· < wt.heap.size)) fun _ h => h.2)
            have hgt2 : gt < wt.heap.size := (hv.lt gt rfl).2
            have hgt1 : w1.heap.size ≤ gt := Nat.le_trans HR8.out.size hgt
            have hop := Open_any es wt K (some ⟨gt, 0, none⟩) kc ct key (ticketB key who.data.toList u) who (HE1.out.step HRt.out) (HK1.out.step HRt.out) hkc HRd.out (by rw [HDl.out]; exact hct)
            rw [HOk.out, HDl.out] at hop
            have HOp := Lib.hid hop
            have HCe := Lib.hid hcell
            have HSe := Lib.hid hset
            have HV := Lib.hid hv
            clear hv hbt hop hcell hset HTk
            obtain ⟨c0, c1, c2, c3, c4⟩ := HC1.out.on hg HRt.out
            go_wp2_with fail
            refine HOp.out.mono ?_
            rintro e wo ⟨hbo, rfl⟩
            have HRo := Lib.hid (below_on HRt.out hbo)
            have hlo : gt < wo.heap.size := Nat.lt_of_lt_of_le hgt2 hbo.size
            clear c0 c1 c2 c3 c4 HOp
            obtain ⟨gt', e', hgt', hcell, hset⟩ := row_set (own_below HV.out hbo) HDl.out (by omega)
            injection e' with e'
            injection e' with e'
            subst e'
            clear hbo HV HCe HSe
            obtain ⟨c0, c1, c2, c3, c4⟩ := HC1.out.on hg HRo.out
            by_cases ht0 : t = 0
            · have hz0 : ((t.toNat : Int) == 0) = true := by rw [ht0]; rfl
              clear hcell hset ht0
              go_wp2_with fail
              go_ret
              exact ⟨rfl, below_on HB1.out HRo.out⟩
            · have hz0 : ((t.toNat : Int) == 0) = false := by
                rw [beq_eq_false_iff_ne]
                intro h
                apply ht0
                apply UInt8.toNat_inj.1
                have : t.toNat = 0 := by omega
                rw [this]; rfl
              obtain ⟨k, hk32, hke⟩ := and_31 z
              have hj8 : 8 ≤ 8 + k % 24 := by omega
              have hj32 : 8 + k % 24 < 32 := by omega
              obtain ⟨ce, cf⟩ := hcell (8 + k % 24) hj32
              have hst := hset (8 + k % 24) hj32 ((ticketB key who.data.toList u).getD (8 + k % 24) 0 ^^^ t)
              have hsl := HSl.out (8 + k % 24) t hj8 hj32 ht0
              have hlen : ((ticketB key who.data.toList u).set (8 + k % 24) ((ticketB key who.data.toList u).getD (8 + k % 24) 0 ^^^ t)).length = 32 := by rw [List.length_set]; exact HDl.out
              generalize (ticketB key who.data.toList u).getD (8 + k % 24) 0 = x at *
              generalize (ticketB key who.data.toList u).set (8 + k % 24) (x ^^^ t) = T' at *
              have m0 : (k : Int).tmod 24 = ((k % 24 : Nat) : Int) := by rw [Int.tmod_eq_emod_of_nonneg (by omega)]; simp
              have m0' : (k : Int) % 24 = ((k % 24 : Nat) : Int) := by simp
              generalize hq : k % 24 = q at *
              have m1 : IntKind.i64.wrap (8 + (q : Int)) = ((8 + q : Nat) : Int) := by rw [IntWalk.i64_in _ (by omega)]; omega
              have m2 : (0 : Int) ≤ ((8 + q : Nat) : Int) := by omega
              have m3 : ((8 + q : Nat) : Int) < 32 := by omega
              have m4 : (((8 + q : Nat) : Int)).toNat = 8 + q := by omega
              have HSt := Lib.hid hst
              have HSl2 := Lib.hid hsl
              have HLe := Lib.hid hlen
              have HKe := Lib.hid hke
              have hke := HKe.out
              have hx8 := x.toNat_lt
              have hee := run_err_same
              unfold bv at ce
              clear hcell hset hst hsl hlen hq
              go_wp2_with fail
              rw [xor_bv]
              have HRs := Lib.hid (HRo.out.setCell hgt1 (bv (x ^^^ t)) : Below w1.heap.size w1 (wo.setCell ⟨gt, 8 + q, none⟩ (bv (x ^^^ t))))
              have hrs : RdC (· < (wo.setCell ⟨gt, 8 + q, none⟩ (bv (x ^^^ t))).heap.size) (wo.setCell ⟨gt, 8 + q, none⟩ (bv (x ^^^ t))) (some ⟨gt, 0, none⟩) (bvs T') := HSt.out.mono fun b hb => by subst hb; simpa using hlo
              have hop := Open_any es (wo.setCell ⟨gt, 8 + q, none⟩ (bv (x ^^^ t))) K (some ⟨gt, 0, none⟩) kc ct key T' who (HE1.out.step HRs.out) (HK1.out.step HRs.out) hkc hrs (by rw [HLe.out]; exact hct)
              rw [HSl2.out, HLe.out] at hop
              have HOp := Lib.hid hop
              clear hop hrs c0 c1 c2 c3 c4 ce cf hke m0 m0' m1 m2 m3 m4
              refine HOp.out.mono ?_
              rintro e wz ⟨hbz, rfl⟩
              have HRz := Lib.hid (below_on HRs.out hbz)
              have gz := (HE1.out.step HRz.out).proof.cell
              clear hbz
              unfold errV at *
              go_wp2_with fail
              go_ret
              exact ⟨rfl, below_on HB1.out HRz.out⟩
          · have htk := Ticket_any es w6 K kc key who n (HE1.out.step HR8.out) (HK1.out.step HR8.out) hkc
            rw [hr] at htk
            have HTk := Lib.hid htk
            clear hr htk
            obtain ⟨c0, c1, c2, c3, c4⟩ := HC1.out.on hg HR8.out
            go_wp2_with fail
            refine HTk.out.mono ?_
            rintro e wz ⟨hbz, rfl⟩
            have HRz := Lib.hid (below_on HR8.out hbz)
            clear c0 c1 c2 c3 c4 hbz
            unfold errV
            go_wp2_with fail
            go_ret
            exact ⟨rfl, below_on HB1.out HRz.out⟩))
    · rw [hr] at hp2
      have HP2 := Lib.hid hp2
      clear hp2 hr
      obtain ⟨c0, c1, c2, c3, c4⟩ := HC1.out.on hg HR2.out
      go_wp2_with fail
      refine HP2.out.mono ?_
      rintro e w3 ⟨hb3, rfl⟩
      have HR3 := Lib.hid (below_on HR2.out hb3)
      clear c0 c1 c2 c3 c4 hb3 HP2
      unfold errV
      rcases ticketR_cases key who.data.toList n with ⟨u, hnu, hu, hk, hw, hr⟩ | hr
      · subst hnu
        have htk := Ticket_any es w3 K kc key who (u : Int) (HE1.out.step HR3.out) (HK1.out.step HR3.out) hkc
        rw [hr] at htk
        have HTk := Lib.hid htk
        have HDl := Lib.hid (ticketB_len key who.data.toList u)
        have HOk := Lib.hid (openR_ticket key who.data.toList u hk hw hu)
        have HSl := Lib.hid (fun j t => openR_slip key who.data.toList u j t hk hw hu)
        clear hr htk hk hw
        obtain ⟨c0, c1, c2, c3, c4⟩ := HC1.out.on hg HR3.out
        go_wp2_with fail
        refine HTk.out.mono ?_
        rintro e wt ⟨hbt, v, rfl, hv⟩
        clear c0 c1 c2 c3 c4
        unfold IsRow at hv
        rw [HDl.out] at hv
        obtain ⟨At, ct, rfl, hct, _⟩ := own_slice hv
        obtain ⟨gt, rfl, hgt, hcell, hset⟩ := row_set hv HDl.out (by omega)
        have HRt := Lib.hid (below_on HR3.out hbt)
        have HRd := Lib.hid ((RdC.of_own hv).mono (ok' := (· < wt.heap.size)) fun _ h => h.2)
        have hgt2 : gt < wt.heap.size := (hv.lt gt rfl).2
        have hgt1 : w1.heap.size ≤ gt := Nat.le_trans HR3.out.size hgt
        have hop := Open_any es wt K (some ⟨gt, 0, none⟩) kc ct key (ticketB key who.data.toList u) who (HE1.out.step HRt.out) (HK1.out.step HRt.out) hkc HRd.out (by rw [HDl.out]; exact hct)
        rw [HOk.out, HDl.out] at hop
        have HOp := Lib.hid hop
        have HCe := Lib.hid hcell
        have HSe := Lib.hid hset
        have HV := Lib.hid hv
        clear hv hbt hop hcell hset HTk
        obtain ⟨c0, c1, c2, c3, c4⟩ := HC1.out.on hg HRt.out
        go_wp2_with fail
        refine HOp.out.mono ?_
        rintro e wo ⟨hbo, rfl⟩
        have HRo := Lib.hid (below_on HRt.out hbo)
        have hlo : gt < wo.heap.size := Nat.lt_of_lt_of_le hgt2 hbo.size
        clear c0 c1 c2 c3 c4 HOp
        obtain ⟨gt', e', hgt', hcell, hset⟩ := row_set (own_below HV.out hbo) HDl.out (by omega)
        injection e' with e'
        injection e' with e'
        subst e'
        clear hbo HV HCe HSe
        obtain ⟨c0, c1, c2, c3, c4⟩ := HC1.out.on hg HRo.out
        by_cases ht0 : t = 0
        · have hz0 : ((t.toNat : Int) == 0) = true := by rw [ht0]; rfl
          clear hcell hset ht0
          go_wp2_with fail
          go_ret
          exact ⟨rfl, below_on HB1.out HRo.out⟩
        · have hz0 : ((t.toNat : Int) == 0) = false := by
            rw [beq_eq_false_iff_ne]
            intro h
            apply ht0
            apply UInt8.toNat_inj.1
            have : t.toNat = 0 := by omega
            rw [this]; rfl
          obtain ⟨k, hk32, hke⟩ := and_31 z
          have hj8 : 8 ≤ 8 + k % 24 := by omega
          have hj32 : 8 + k % 24 < 32 := by omega
          obtain ⟨ce, cf⟩ := hcell (8 + k % 24) hj32
          have hst := hset (8 + k % 24) hj32 ((ticketB key who.data.toList u).getD (8 + k % 24) 0 ^^^ t)
          have hsl := HSl.out (8 + k % 24) t hj8 hj32 ht0
          have hlen : ((ticketB key who.data.toList u).set (8 + k % 24) ((ticketB key who.data.toList u).getD (8 + k % 24) 0 ^^^ t)).length = 32 := by rw [List.length_set]; exact HDl.out
          generalize (ticketB key who.data.toList u).getD (8 + k % 24) 0 = x at *
          generalize (ticketB key who.data.toList u).set (8 + k % 24) (x ^^^ t) = T' at *
          have m0 : (k : Int).tmod 24 = ((k % 24 : Nat) : Int) := by rw [Int.tmod_eq_emod_of_nonneg (by omega)]; simp
          have m0' : (k : Int) % 24 = ((k % 24 : Nat) : Int) := by simp
          generalize hq : k % 24 = q at *
          have m1 : IntKind.i64.wrap (8 + (q : Int)) = ((8 + q : Nat) : Int) := by rw [IntWalk.i64_in _ (by omega)]; omega
          have m2 : (0 : Int) ≤ ((8 + q : Nat) : Int) := by omega
          have m3 : ((8 + q : Nat) : Int) < 32 := by omega
          have m4 : (((8 + q : Nat) : Int)).toNat = 8 + q := by omega
          have HSt := Lib.hid hst
          have HSl2 := Lib.hid hsl
          have HLe := Lib.hid hlen
          have HKe := Lib.hid hke
          have hke := HKe.out
          have hx8 := x.toNat_lt
          have hee := run_err_same
          unfold bv at ce
          clear hcell hset hst hsl hlen hq
          go_wp2_with fail
          rw [xor_bv]
          have HRs := Lib.hid (HRo.out.setCell hgt1 (bv (x ^^^ t)) : Below w1.heap.size w1 (wo.setCell ⟨gt, 8 + q, none⟩ (bv (x ^^^ t))))
          have hrs : RdC (· < (wo.setCell ⟨gt, 8 + q, none⟩ (bv (x ^^^ t))).heap.size) (wo.setCell ⟨gt, 8 + q, none⟩ (bv (x ^^^ t))) (some ⟨gt, 0, none⟩) (bvs T') := HSt.out.mono fun b hb => by subst hb; simpa using hlo
          have hop := Open_any es (wo.setCell ⟨gt, 8 + q, none⟩ (bv (x ^^^ t))) K (some ⟨gt, 0, none⟩) kc ct key T' who (HE1.out.step HRs.out) (HK1.out.step HRs.out) hkc hrs (by rw [HLe.out]; exact hct)
          rw [HSl2.out, HLe.out] at hop
          have HOp := Lib.hid hop
          clear hop hrs c0 c1 c2 c3 c4 ce cf hke m0 m0' m1 m2 m3 m4
          refine HOp.out.mono ?_
          rintro e wz ⟨hbz, rfl⟩
          have HRz := Lib.hid (below_on HRs.out hbz)
          have gz := (HE1.out.step HRz.out).proof.cell
          clear hbz
          unfold errV at *
          go_wp2_with fail
          go_ret
          exact ⟨rfl, below_on HB1.out HRz.out⟩
      · have htk := Ticket_any es w3 K kc key who n (HE1.out.step HR3.out) (HK1.out.step HR3.out) hkc
        rw [hr] at htk
        have HTk := Lib.hid htk
        clear hr htk
        obtain ⟨c0, c1, c2, c3, c4⟩ := HC1.out.on hg HR3.out
        go_wp2_with fail
        refine HTk.out.mono ?_
        rintro e wz ⟨hbz, rfl⟩
        have HRz := Lib.hid (below_on HR3.out hbz)
        clear c0 c1 c2 c3 c4 hbz
        unfold errV
        go_wp2_with fail
        go_ret
        exact ⟨rfl, below_on HB1.out HRz.out⟩
theorem slips_walk (es : Er → Addr) (w : World) (K N R : Option Addr) (kc nc rc : Nat) (key nonce by_ : Bs) (who : ByteArray) (n z y : Int) (hE : PEnv w es) (hK : RdC (· < w.heap.size) w K (bvs key)) (hkc : key.length ≤ kc) (hN : RdC (· < w.heap.size) w N (bvs nonce))
    (hla : key.length ≤ 9223372036854775807) (hlb : nonce.length ≤ 9223372036854775807) (hls : who.size ≤ 9223372036854775807) (hld : by_.length ≤ 9223372036854775807) (hy0 : 0 ≤ y) (hy1 : y ≤ 255) :
    Calls Tryd.prog 4 #[.agg #[.slice K key.length kc, .slice N nonce.length nc, .string who, .int .i64 n, .slice R by_.length rc], .int .i64 z, .int .u8 y] w (OkPost10 w) := by
  obtain ⟨t, rfl⟩ : ∃ t : UInt8, y = (t.toNat : Int) := ⟨UInt8.ofNat y.toNat, by rw [UInt8.toNat_ofNat']; omega⟩
  exact slips_walk0 es w K N R kc nc rc key nonce by_ who n z t hE hK hkc hN hla hlb hls hld
end Go.Proofs.YtnnokbipcenbgaaDoor
