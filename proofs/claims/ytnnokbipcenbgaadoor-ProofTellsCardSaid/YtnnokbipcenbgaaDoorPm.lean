/- Walk of the statement ProofShapes. -/
import Derived.Test.YtnnokbipcenbgaaDoorPk
set_option linter.unusedVariables false
set_option linter.unusedSimpArgs false
set_option linter.unnecessarySimpa false
namespace Go.Proofs.YtnnokbipcenbgaaDoor
open Go.RowKit

theorem ticketR_cases (key who : Bs) (n : Int) : (∃ u : Nat, n = (u : Int) ∧ u ≤ 1099511627776 ∧ secretOk key = true ∧ whoOk who = true ∧ ticketR key who n = .ok (ticketB key who u)) ∨ ticketR key who n = .error .range := by
  by_cases hok : secretOk key = true ∧ whoOk who = true ∧ numOk n = true
  · have hn := of_decide_eq_true hok.2.2
    obtain ⟨u, rfl⟩ := Int.eq_ofNat_of_zero_le hn.1
    refine .inl ⟨u, rfl, by omega, hok.1, hok.2.1, ?_⟩
    unfold ticketR
    rw [if_pos hok, Int.toNat_natCast]
  · exact .inr (by unfold ticketR; rw [if_neg hok])
theorem ticketR_nat (key who : Bs) (u : Nat) (hk : secretOk key = true) (hw : whoOk who = true) (hu : u ≤ 1099511627776) : ticketR key who (u : Int) = .ok (ticketB key who u) := by
  have hn : numOk (u : Int) = true := decide_eq_true ⟨by omega, by omega⟩
  unfold ticketR
  rw [if_pos ⟨hk, hw, hn⟩, Int.toNat_natCast]
theorem other_ex (o : Int) : ∃ m : Nat, m < 1099511627776 ∧ wrap64 ((IntKind.u64.wrap o).tmod 1099511627776) = (m : Int) := by
  have h0 : 0 ≤ IntKind.u64.wrap o := by rw [IntKind.wrap_u64]; omega
  rw [Int.tmod_eq_emod_of_nonneg h0]
  refine ⟨(IntKind.u64.wrap o % 1099511627776).toNat, by omega, by unfold wrap64; omega⟩
set_option maxRecDepth 8000 in
set_option maxHeartbeats 1600000 in
theorem numbers_walk (es : Er → Addr) (w : World) (K N R : Option Addr) (kc nc rc : Nat) (key nonce by_ : Bs) (who : ByteArray) (n o : Int) (hE : PEnv w es) (hK : RdC (· < w.heap.size) w K (bvs key)) (hkc : key.length ≤ kc)
    (hla : key.length ≤ 9223372036854775807) (hlb : nonce.length ≤ 9223372036854775807) (hls : who.size ≤ 9223372036854775807) (hld : by_.length ≤ 9223372036854775807) :
    Calls Tryd.prog 3 #[.agg #[.slice K key.length kc, .slice N nonce.length nc, .string who, .int .i64 n, .slice R by_.length rc], .int .i64 o] w (OkPost10 w) := by
  have hbx := below_box w (Obj.cells #[.slice K key.length kc, .slice N nonce.length nc, .string who, .int .i64 n, .slice R by_.length rc] 24)
  have hcx := CaseC.box w (.slice K key.length kc) (.slice N nonce.length nc) (.string who) (.int .i64 n) (.slice R by_.length rc) 24
  have hsx : (w.alloc (Obj.cells #[.slice K key.length kc, .slice N nonce.length nc, .string who, .int .i64 n, .slice R by_.length rc] 24)).heap.size = w.heap.size + 1 := by simp
  have hal := alive10 es _ (hE.step hbx)
  have HE := Lib.hid hE
  have HK := Lib.hid hK
  have HBx := Lib.hid hbx
  have HCx := Lib.hid hcx
  have HSx := Lib.hid hsx
  have HAl := Lib.hid hal
  clear hE hK hbx hcx hsx hal
  go_enter Tryd.func3, Tryd.ntmps3
  go_wp2_with fail
  refine HAl.out.mono ?_
  rintro e w1 ⟨rfl, hb1⟩
  have HB1 := Lib.hid (below_on HBx.out hb1)
  have hc1 := HCx.out.on (by rw [HSx.out]; omega) hb1
  have hg : w.heap.size < w1.heap.size := by have := hb1.size; have := HSx.out; omega
  have HC1 := Lib.hid hc1
  clear hb1 HAl HCx HSx HBx
  obtain ⟨c0, c1, c2, c3, c4⟩ := hc1
  go_wp2_with fail
  refine (long_any w1 K N R _ _ _ kc nc rc who n hla hlb hls hld).mono ?_
  rintro e w2 ⟨lv, rfl, hlong, hb2⟩
  clear c0 c1 c2 c3 c4
  have HR2 := Lib.hid hb2
  have HL := Lib.hid hlong
  clear hlong hb2
  cases lv with
  | true =>
    go_wp2_with fail
    go_ret
    exact ⟨rfl, below_on HB1.out HR2.out⟩
  | false =>
    obtain ⟨l1, l2, l3, l4⟩ := HL.out rfl
    have HE1 := Lib.hid (HE.out.step HB1.out)
    have HK1 := Lib.hid (HK.out.step HB1.out)
    clear HL
    rcases ticketR_cases key who.data.toList n with ⟨u, hnu, hu, hk, hw, hr⟩ | hr
    · subst hnu
      have htk := Ticket_any es w2 K kc key who (u : Int) (HE1.out.step HR2.out) (HK1.out.step HR2.out) hkc
      rw [hr] at htk
      have hop := openR_ticket key who.data.toList u hk hw hu
      have hdl := ticketB_len key who.data.toList u
      have HTk := Lib.hid htk
      have HOp := Lib.hid hop
      have HDl := Lib.hid hdl
      have HK0 := Lib.hid hk
      have HW0 := Lib.hid hw
      clear hr htk hop hdl hk hw
      obtain ⟨c0, c1, c2, c3, c4⟩ := HC1.out.on hg HR2.out
      go_wp2_with fail
      refine HTk.out.mono ?_
      rintro e w3 ⟨hb3, v, rfl, hv⟩
      clear c0 c1 c2 c3 c4
      unfold IsRow at hv
      rw [HDl.out] at hv
      obtain ⟨A, c, rfl, hc, _⟩ := own_slice hv
      have HRd := Lib.hid ((RdC.of_own hv).mono (ok' := (· < w3.heap.size)) fun _ h => h.2)
      have HR3 := Lib.hid (below_on HR2.out hb3)
      have hop := Open_any es w3 K A kc c key (ticketB key who.data.toList u) who (HE1.out.step HR3.out) (HK1.out.step HR3.out) hkc HRd.out (by rw [HDl.out]; exact hc)
      rw [HOp.out, HDl.out] at hop
      have HOp3 := Lib.hid hop
      clear hv hb3 hop HTk
      obtain ⟨c0, c1, c2, c3, c4⟩ := HC1.out.on hg HR3.out
      go_wp2_with fail
      refine HOp3.out.mono ?_
      rintro e w4 ⟨hb4, rfl⟩
      clear c0 c1 c2 c3 c4
      have HR4 := Lib.hid (below_on HR3.out hb4)
      have HRd4 := Lib.hid (HRd.out.step hb4)
      clear hb4 HOp3
      obtain ⟨c0, c1, c2, c3, c4⟩ := HC1.out.on hg HR4.out
      go_wp2_with fail
      obtain ⟨m, hm, hme⟩ := other_ex o
      rw [hme]
      have htk := Ticket_any es w4 K kc key who (m : Int) (HE1.out.step HR4.out) (HK1.out.step HR4.out) hkc
      rw [ticketR_nat key _ m HK0.out HW0.out (by omega)] at htk
      have hop := openR_ticket key who.data.toList m HK0.out HW0.out (by omega)
      have hdl := ticketB_len key who.data.toList m
      have hinj : m ≠ u → ticketB key who.data.toList u ≠ ticketB key who.data.toList m := fun h e => h (by
        have h1 := ticketB_num key who.data.toList m (by omega)
        have h2 := ticketB_num key who.data.toList u hu
        rw [e, h1] at h2
        exact h2)
      have HInj := Lib.hid hinj
      have HTk := Lib.hid htk
      have HOp5 := Lib.hid hop
      have HDl5 := Lib.hid hdl
      have HMe := Lib.hid hme
      clear htk hop hdl hme hinj c0 c1 c2 c3 c4
      refine HTk.out.mono ?_
      rintro e w5 ⟨hb5, v5, rfl, hv5⟩
      unfold IsRow at hv5
      rw [HDl5.out] at hv5
      obtain ⟨A5, c5', rfl, hc5, _⟩ := own_slice hv5
      have HRd5 := Lib.hid ((RdC.of_own hv5).mono (ok' := (· < w5.heap.size)) fun _ h => h.2)
      have HR5 := Lib.hid (below_on HR4.out hb5)
      have HRd45 := Lib.hid (HRd4.out.step hb5)
      have hop := Open_any es w5 K A5 kc c5' key (ticketB key who.data.toList m) who (HE1.out.step HR5.out) (HK1.out.step HR5.out) hkc HRd5.out (by rw [HDl5.out]; exact hc5)
      rw [HOp5.out, HDl5.out] at hop
      have HOp6 := Lib.hid hop
      clear hv5 hb5 hop HTk
      obtain ⟨c0, c1, c2, c3, c4⟩ := HC1.out.on hg HR5.out
      go_wp2_with fail
      refine HOp6.out.mono ?_
      rintro e w6 ⟨hb6, rfl⟩
      clear c0 c1 c2 c3 c4
      have HR6 := Lib.hid (below_on HR5.out hb6)
      have f1 : (convert 22 9 (.slice A 32 c)).run Tryd.prog w6 = .ok (.string ⟨(ticketB key who.data.toList u).toArray⟩) w6 := run_str_of Tryd.underlying22 Tryd.underlying5 Tryd.underlying9 HDl.out.symm (HRd45.out.step hb6)
      have f2 : (convert 22 9 (.slice A5 32 c5')).run Tryd.prog w6 = .ok (.string ⟨(ticketB key who.data.toList m).toArray⟩) w6 := run_str_of Tryd.underlying22 Tryd.underlying5 Tryd.underlying9 HDl5.out.symm (HRd5.out.step hb6)
      have hme := HMe.out
      clear hb6 HOp6
      obtain ⟨c0, c1, c2, c3, c4⟩ := HC1.out.on hg HR6.out
      by_cases hmu : m = u
      · subst hmu
        generalize ticketB key who.data.toList m = D at *
        go_wp2_with fail
        go_ret
        exact ⟨rfl, below_on HB1.out HR6.out⟩
      · have hne := HInj.out hmu
        generalize ticketB key who.data.toList m = D2 at *
        generalize ticketB key who.data.toList u = D1 at *
        have hb1 : (D1 == D2) = false := beq_eq_false_iff_ne.2 hne
        have hb2 : ((m : Int) == (u : Int)) = false := by rw [beq_eq_false_iff_ne]; omega
        clear hmu hne
        go_wp2_with fail
        go_ret
        exact ⟨rfl, below_on HB1.out HR6.out⟩
    · have htk := Ticket_any es w2 K kc key who n (HE1.out.step HR2.out) (HK1.out.step HR2.out) hkc
      rw [hr] at htk
      have HTk := Lib.hid htk
      clear hr htk
      obtain ⟨c0, c1, c2, c3, c4⟩ := HC1.out.on hg HR2.out
      go_wp2_with fail
      refine HTk.out.mono ?_
      rintro e w3 ⟨hb3, rfl⟩
      have HR3 := Lib.hid (below_on HR2.out hb3)
      clear c0 c1 c2 c3 c4 hb3
      unfold errV
      go_wp2_with fail
      go_ret
      exact ⟨rfl, below_on HB1.out HR3.out⟩
end Go.Proofs.YtnnokbipcenbgaaDoor
/- Walk of the statement ProofNumbers. -/
set_option linter.unusedVariables false
set_option linter.unusedSimpArgs false
set_option linter.unnecessarySimpa false
namespace Go.Proofs.YtnnokbipcenbgaaDoor
open Go.RowKit

def whoL : ByteArray := ⟨#[119, 104, 111]⟩
theorem nonceR_cases (key : Bs) (n : Int) : (∃ d : Bs, d.length = 16 ∧ secretOk key = true ∧ nonceR key n = .ok d) ∨ nonceR key n = .error .range := by
  by_cases hok : secretOk key = true ∧ numOk n = true
  · refine .inl ⟨nonceB key n.toNat, ?_, hok.1, by unfold nonceR; rw [if_pos hok]⟩
    unfold nonceB
    rw [List.length_take, keyed_len]
    rfl
  · exact .inr (by unfold nonceR; rw [if_neg hok])
theorem proveR_who (key nonce : Bs) (hk : secretOk key = true) (h16 : nonce.length = 16) : proveR key nonce whoL.data.toList = .ok (proveB key nonce whoL.data.toList) := by
  unfold proveR
  rw [if_pos ⟨hk, h16, by decide⟩]
theorem proveB_len (key nonce who : Bs) : (proveB key nonce who).length = 32 := keyed_len key _
theorem IsArr.reads2 {n : Nat} {w w' : World} {v : Value} {d : Bs} (h : IsArr n w v w' d) (hn : n ≤ 32) : ∃ g, v = .slice (some ⟨g, 0, none⟩) n n ∧ RdC (· < w'.heap.size) w' (some ⟨g, 0, none⟩) (bvs d) := by
  obtain ⟨g, D, rfl, hg, ha, hD, rfl⟩ := h
  exact ⟨g, rfl, by rw [bvs_take]; exact (ha.reads.take n).mono fun k hk => by subst hk; exact ha.lt⟩
theorem rightR_self (key nonce who d : Bs) (h : proveR key nonce who = .ok d) : rightR key nonce who d = true := by
  unfold rightR
  rw [h]
  simp
set_option maxRecDepth 8000 in
set_option maxHeartbeats 3200000 in
theorem shapes_walk (es : Er → Addr) (w : World) (K N R : Option Addr) (kc nc rc : Nat) (key nonce by_ : Bs) (who : ByteArray) (n : Int) (hE : PEnv w es) (hK : RdC (· < w.heap.size) w K (bvs key)) (hkc : key.length ≤ kc)
    (hla : key.length ≤ 9223372036854775807) (hlb : nonce.length ≤ 9223372036854775807) (hls : who.size ≤ 9223372036854775807) (hld : by_.length ≤ 9223372036854775807) :
    Calls Tryd.prog 6 #[.agg #[.slice K key.length kc, .slice N nonce.length nc, .string who, .int .i64 n, .slice R by_.length rc]] w (OkPost10 w) := by
  have hbx := below_box w (Obj.cells #[.slice K key.length kc, .slice N nonce.length nc, .string who, .int .i64 n, .slice R by_.length rc] 24)
  have hcx := CaseC.box w (.slice K key.length kc) (.slice N nonce.length nc) (.string who) (.int .i64 n) (.slice R by_.length rc) 24
  have hsx : (w.alloc (Obj.cells #[.slice K key.length kc, .slice N nonce.length nc, .string who, .int .i64 n, .slice R by_.length rc] 24)).heap.size = w.heap.size + 1 := by simp
  have hal := alive10 es _ (hE.step hbx)
  have HE := Lib.hid hE
  have HK := Lib.hid hK
  have HBx := Lib.hid hbx
  have HCx := Lib.hid hcx
  have HSx := Lib.hid hsx
  have HAl := Lib.hid hal
  clear hE hK hbx hcx hsx hal
  go_enter Tryd.func6, Tryd.ntmps6
  go_wp2_with fail
  refine HAl.out.mono ?_
  rintro e w1 ⟨rfl, hb1⟩
  have HB1 := Lib.hid (below_on HBx.out hb1)
  have hc1 := HCx.out.on (by rw [HSx.out]; omega) hb1
  have hg : w.heap.size < w1.heap.size := by have := hb1.size; have := HSx.out; omega
  have HC1 := Lib.hid hc1
  clear hb1 HAl HCx HSx HBx
  obtain ⟨c0, c1, c2, c3, c4⟩ := hc1
  go_wp2_with fail
  refine (long_any w1 K N R _ _ _ kc nc rc who n hla hlb hls hld).mono ?_
  rintro e w2 ⟨lv, rfl, hlong, hb2⟩
  clear c0 c1 c2 c3 c4
  have HR2 := Lib.hid hb2
  have HL := Lib.hid hlong
  clear hlong hb2
  cases lv with
  | true =>
    go_wp2_with fail
    go_ret
    exact ⟨rfl, below_on HB1.out HR2.out⟩
  | false =>
    obtain ⟨l1, l2, l3, l4⟩ := HL.out rfl
    have HE1 := Lib.hid (HE.out.step HB1.out)
    have HK1 := Lib.hid (HK.out.step HB1.out)
    clear HL
    have hn2 := nonce_any es w2 K kc key n (HE1.out.step HR2.out) (HK1.out.step HR2.out) hkc
    rcases nonceR_cases key n with ⟨d, hdl, hk, hr⟩ | hr
    · rw [hr] at hn2
      have HN2 := Lib.hid hn2
      have HNr := Lib.hid hr
      have HDl0 := Lib.hid hdl
      have HKs := Lib.hid hk
      clear hn2 hr hdl hk
      obtain ⟨c0, c1, c2, c3, c4⟩ := HC1.out.on hg HR2.out
      go_wp2_with fail
      refine HN2.out.mono ?_
      rintro e w3 ⟨hb3, v3, rfl, hq3⟩
      obtain ⟨g3, rfl, hrd3⟩ := hq3.reads2 (by omega)
      have HR3 := Lib.hid (below_on HR2.out hb3)
      have HRd3 := Lib.hid hrd3
      have hn3 := nonce_any es w3 K kc key n (HE1.out.step HR3.out) (HK1.out.step HR3.out) hkc
      rw [HNr.out] at hn3
      have HN3 := Lib.hid hn3
      clear c0 c1 c2 c3 c4 hb3 hq3 hrd3 hn3
      obtain ⟨c0, c1, c2, c3, c4⟩ := HC1.out.on hg HR3.out
      go_wp2_with fail
      refine HN3.out.mono ?_
      rintro e w4 ⟨hb4, v4, rfl, hq4⟩
      obtain ⟨g4, rfl, hrd4⟩ := hq4.reads2 (by omega)
      have HR4 := Lib.hid (below_on HR3.out hb4)
      have HRd34 := Lib.hid (HRd3.out.step hb4)
      have HRd4 := Lib.hid hrd4
      have hp4 := prove_any es w4 K (some ⟨g3, 0, none⟩) kc 16 key d whoL (HE1.out.step HR4.out) (HK1.out.step HR4.out) hkc HRd34.out
      rw [proveR_who key d HKs.out HDl0.out, HDl0.out] at hp4
      have HP4 := Lib.hid hp4
      clear c0 c1 c2 c3 c4 hb4 hq4 hrd4 hp4
      obtain ⟨c0, c1, c2, c3, c4⟩ := HC1.out.on hg HR4.out
      unfold whoL at HP4
      go_wp2_with fail
      refine HP4.out.mono ?_
      rintro e w5 ⟨hb5, v5, rfl, hq5⟩
      obtain ⟨g5, rfl, hrd5⟩ := hq5.reads2 (by omega)
      have HR5 := Lib.hid (below_on HR4.out hb5)
      have HRd35 := Lib.hid (HRd34.out.step hb5)
      have HRd45 := Lib.hid (HRd4.out.step hb5)
      have HRd5 := Lib.hid hrd5
      have hp5 := prove_any es w5 K (some ⟨g4, 0, none⟩) kc 16 key d whoL (HE1.out.step HR5.out) (HK1.out.step HR5.out) hkc HRd45.out
      rw [proveR_who key d HKs.out HDl0.out, HDl0.out] at hp5
      have HP5 := Lib.hid hp5
      clear c0 c1 c2 c3 c4 hb5 hq5 hrd5 hp5
      obtain ⟨c0, c1, c2, c3, c4⟩ := HC1.out.on hg HR5.out
      unfold whoL at HP5
      go_wp2_with fail
      refine HP5.out.mono ?_
      rintro e w6 ⟨hb6, v6, rfl, hq6⟩
      obtain ⟨g6, rfl, hrd6⟩ := hq6.reads2 (by omega)
      have HR6 := Lib.hid (below_on HR5.out hb6)
      have f1 : (convert 22 9 (.slice (some ⟨g3, 0, none⟩) 16 16)).run Tryd.prog w6 = .ok (.string ⟨d.toArray⟩) w6 := run_str_of Tryd.underlying22 Tryd.underlying5 Tryd.underlying9 HDl0.out.symm (HRd35.out.step hb6)
      have f2 : (convert 22 9 (.slice (some ⟨g4, 0, none⟩) 16 16)).run Tryd.prog w6 = .ok (.string ⟨d.toArray⟩) w6 := run_str_of Tryd.underlying22 Tryd.underlying5 Tryd.underlying9 HDl0.out.symm (HRd45.out.step hb6)
      have f3 : (convert 22 9 (.slice (some ⟨g5, 0, none⟩) 32 32)).run Tryd.prog w6 = .ok (.string ⟨(proveB key d whoL.data.toList).toArray⟩) w6 := run_str_of Tryd.underlying22 Tryd.underlying5 Tryd.underlying9 (proveB_len _ _ _).symm (HRd5.out.step hb6)
      have f4 : (convert 22 9 (.slice (some ⟨g6, 0, none⟩) 32 32)).run Tryd.prog w6 = .ok (.string ⟨(proveB key d whoL.data.toList).toArray⟩) w6 := run_str_of Tryd.underlying22 Tryd.underlying5 Tryd.underlying9 (proveB_len _ _ _).symm hrd6
      have hp6 := right_any10 es w6 K (some ⟨g3, 0, none⟩) (some ⟨g5, 0, none⟩) kc 16 32 key d (proveB key d whoL.data.toList) whoL (HE1.out.step HR6.out) (HK1.out.step HR6.out) hkc (HRd35.out.step hb6) (HRd5.out.step hb6) (by rw [proveB_len]; omega)
      rw [rightR_self _ _ _ _ (proveR_who key d HKs.out HDl0.out), HDl0.out, proveB_len] at hp6
      generalize proveB key d whoL.data.toList = P at *
      unfold whoL at hp6
      have HP6 := Lib.hid hp6
      clear c0 c1 c2 c3 c4 hb6 hq6 hrd6 hp6
      obtain ⟨c0, c1, c2, c3, c4⟩ := HC1.out.on hg HR6.out
      go_wp2_with fail
      refine HP6.out.mono ?_
      rintro e w7 ⟨rfl, hb7⟩
      have HR7 := Lib.hid (below_on HR6.out hb7)
      clear c0 c1 c2 c3 c4 f1 f2 f3 f4 hb7 HP6 HP5 HP4 HN3 HN2
      rcases ticketR_cases key who.data.toList n with ⟨u, hnu, hu, hk, hw, hr⟩ | hr
      · subst hnu
        have htk := Ticket_any es w7 K kc key who (u : Int) (HE1.out.step HR7.out) (HK1.out.step HR7.out) hkc
        rw [hr] at htk
        have HTk := Lib.hid htk
        have HDl := Lib.hid (ticketB_len key who.data.toList u)
        clear hr htk hk hw
        obtain ⟨c0, c1, c2, c3, c4⟩ := HC1.out.on hg HR7.out
        go_wp2_with fail
        refine HTk.out.mono ?_
        rintro e wz ⟨hbz, v, rfl, hv⟩
        clear c0 c1 c2 c3 c4
        unfold IsRow at hv
        rw [HDl.out] at hv
        obtain ⟨Az, cz, rfl, _, _⟩ := own_slice hv
        have HRz := Lib.hid (below_on HR7.out hbz)
        clear hv hbz HTk
        go_wp2_with fail
        go_ret
        exact ⟨rfl, below_on HB1.out HRz.out⟩
      · have htk := Ticket_any es w7 K kc key who n (HE1.out.step HR7.out) (HK1.out.step HR7.out) hkc
        rw [hr] at htk
        have HTk := Lib.hid htk
        clear hr htk
        obtain ⟨c0, c1, c2, c3, c4⟩ := HC1.out.on hg HR7.out
        go_wp2_with fail
        refine HTk.out.mono ?_
        rintro e wz ⟨hbz, rfl⟩
        have HRz := Lib.hid (below_on HR7.out hbz)
        clear c0 c1 c2 c3 c4 hbz
        unfold errV
        go_wp2_with fail
        go_ret
        exact ⟨rfl, below_on HB1.out HRz.out⟩
    · rw [hr] at hn2
      have HN2 := Lib.hid hn2
      have HNr := Lib.hid hr
      clear hn2 hr
      obtain ⟨c0, c1, c2, c3, c4⟩ := HC1.out.on hg HR2.out
      go_wp2_with fail
      refine HN2.out.mono ?_
      rintro e w3 ⟨hb3, rfl⟩
      have HR3 := Lib.hid (below_on HR2.out hb3)
      have hn3 := nonce_any es w3 K kc key n (HE1.out.step HR3.out) (HK1.out.step HR3.out) hkc
      rw [HNr.out] at hn3
      have HN3 := Lib.hid hn3
      clear c0 c1 c2 c3 c4 hb3 hn3
      obtain ⟨c0, c1, c2, c3, c4⟩ := HC1.out.on hg HR3.out
      unfold errV
      go_wp2_with fail
      refine HN3.out.mono ?_
      rintro e w4 ⟨hb4, rfl⟩
      have HR4 := Lib.hid (below_on HR3.out hb4)
      clear c0 c1 c2 c3 c4 hb4 HN3 HN2
      rcases ticketR_cases key who.data.toList n with ⟨u, hnu, hu, hk, hw, hr⟩ | hr
      · subst hnu
        have htk := Ticket_any es w4 K kc key who (u : Int) (HE1.out.step HR4.out) (HK1.out.step HR4.out) hkc
        rw [hr] at htk
        have HTk := Lib.hid htk
        have HDl := Lib.hid (ticketB_len key who.data.toList u)
        clear hr htk hk hw
        obtain ⟨c0, c1, c2, c3, c4⟩ := HC1.out.on hg HR4.out
        go_wp2_with fail
        refine HTk.out.mono ?_
        rintro e wz ⟨hbz, v, rfl, hv⟩
        clear c0 c1 c2 c3 c4
        unfold IsRow at hv
        rw [HDl.out] at hv
        obtain ⟨Az, cz, rfl, _, _⟩ := own_slice hv
        have HRz := Lib.hid (below_on HR4.out hbz)
        clear hv hbz HTk
        go_wp2_with fail
        go_ret
        exact ⟨rfl, below_on HB1.out HRz.out⟩
      · have htk := Ticket_any es w4 K kc key who n (HE1.out.step HR4.out) (HK1.out.step HR4.out) hkc
        rw [hr] at htk
        have HTk := Lib.hid htk
        clear hr htk
        obtain ⟨c0, c1, c2, c3, c4⟩ := HC1.out.on hg HR4.out
        go_wp2_with fail
        refine HTk.out.mono ?_
        rintro e wz ⟨hbz, rfl⟩
        have HRz := Lib.hid (below_on HR4.out hbz)
        clear c0 c1 c2 c3 c4 hbz
        unfold errV
        go_wp2_with fail
        go_ret
        exact ⟨rfl, below_on HB1.out HRz.out⟩
end Go.Proofs.YtnnokbipcenbgaaDoor
