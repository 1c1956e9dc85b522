/- Walks of the reference of layer 10: Open. -/
import Derived.Test.YtnnokbipcenbgaaDoorRu
import Derived.Test.YtnnokbipcenbgaaDoorNv
set_option linter.unusedVariables false
set_option linter.unusedSimpArgs false
set_option linter.unnecessarySimpa false
namespace Go.Proofs.YtnnokbipcenbgaaDoor
open Go.RowKit

theorem ticketB_eq (key who : Bs) (n : Nat) : ticketB key who n = be n 8 ++ (keyed key ((([116] ++ be who.length 1) ++ who) ++ be n 8)).take 24 := by
  unfold ticketB
  simp
theorem own_ne {w w' : World} {b7 b6 : Nat} {e : TypeId} {s n7 n6 : Nat} {v7 v6 : Value} {x7 x6 : List Value} (h7 : w.ownsRow b7 e s v7 n7 x7) (h6 : w'.ownsRow b6 e s v6 n6 x6) (hb : w'.heap.size ≤ b7) : v7.ownBlock = none ∨ v7.ownBlock ≠ v6.ownBlock := by
  cases h : v7.ownBlock with
  | none => exact .inl rfl
  | some k =>
    refine .inr fun e => ?_
    have h1 := (h7.lt k h).1
    have h2 := (h6.lt k e.symm).2
    omega
set_option maxRecDepth 8000 in
set_option maxHeartbeats 1600000 in
theorem rticket_any (w : World) (H : Nat) (va vb : Value) (base : Nat) (K : Option Addr) (ck : Nat) (key : Bs) (who : ByteArray) (n : Int) (hT : TableAt base w H va vb) (hK : RdC (· < w.heap.size) w K (bvs key)) (hkl : key.length ≤ 1099511627776) :
    Calls Tryd.prog 18 #[.pointer (some ⟨H, 0, none⟩), .slice K key.length ck, .string who, .int .i64 n] w (RTold w (ticketR key who.data.toList n)) := by
  obtain ⟨i0, hi, hz0, hz1, hz2⟩ := info_parts infoU8h
  have kc := fun (w : World) (C : Array Value) (n c : Nat) => Lib.run_convert_bytes_const (P := Tryd.prog) w 22 5 C n c Tryd.underlying22 Tryd.underlying5
  have hsec := rsecret_any w K ck key (by omega)
  have hnam := rname_any w who (str_size who).symm
  have hnum := rnum_any w n
  have hws := str_size who
  have HSec := Lib.hid hsec
  have HNam := Lib.hid hnam
  have HNum := Lib.hid hnum
  clear hsec hnam hnum
  by_cases hok : secretOk key = true ∧ whoOk who.data.toList = true ∧ numOk n = true
  · obtain ⟨hs, hw, hn⟩ := hok
    have hr : ticketR key who.data.toList n = .ok (ticketB key who.data.toList n.toNat) := by unfold ticketR; rw [if_pos ⟨hs, hw, hn⟩]
    have hn2 := of_decide_eq_true hn
    obtain ⟨u, rfl⟩ : ∃ u : Nat, n = (u : Int) := ⟨n.toNat, by omega⟩
    rw [Int.toNat_natCast, ticketB_eq, hws] at hr
    rw [hr]
    have hw2 := of_decide_eq_true hw
    have hu : (u : Int) ≤ 1099511627776 := hn2.2
    have hwu6 : IntKind.u64.wrap (u : Int) = (u : Int) := u64_nat _ (by omega)
    rw [hs] at HSec
    rw [hw] at HNam
    rw [hn] at HNum
    have hwu : IntKind.u8.wrap (who.size : Int) = (who.size : Int) := IntWalk.u8_in _ (by omega)
    have hb1 := bvs_be1 who.size (by omega)
    have hL1 : ([116] ++ be who.size 1 : Bs).length = 2 := by rw [List.length_append, be_length]; rfl
    have hL2 : (([116] ++ be who.size 1) ++ who.data.toList : Bs).length = 2 + who.size := by rw [List.length_append, hL1, hws]
    have hL3 : ((([116] ++ be who.size 1) ++ who.data.toList) ++ be u 8 : Bs).length = 10 + who.size := by rw [List.length_append, hL2, be_length]; omega
    have hw16 : who.size ≤ 16 := by omega
    obtain ⟨kd, hKd⟩ : ∃ r, keyed key ((([116] ++ be who.size 1) ++ who.data.toList) ++ be u 8) = r := ⟨_, rfl⟩
    have hkdl : kd.length = 32 := by rw [← hKd]; exact keyed_len _ _
    rw [hKd]
    have hD : (be u 8 ++ kd.take 24).length = 32 := by rw [List.length_append, be_length, List.length_take, hkdl]; rfl
    have hRes : be u 8 ++ kd.take 24 = be u 8 ++ kd.take 24 := rfl
    obtain ⟨res, hRes⟩ : ∃ r, be u 8 ++ kd.take 24 = r := ⟨_, rfl⟩
    rw [hRes] at hD ⊢
    obtain ⟨eu, hEu⟩ : ∃ r, be u 8 = r := ⟨_, rfl⟩
    have hEl : eu.length = 8 := by rw [← hEu, be_length]
    have hnm := rnumber_any u 8 w (by omega) (by omega)
    rw [hEu] at hnm hRes hKd hL3
    have HNm := Lib.hid hnm
    have HT := Lib.hid hT
    have HK := Lib.hid hK
    have HB1 := Lib.hid hb1
    have HL1 := Lib.hid hL1
    have HL2 := Lib.hid hL2
    have HL3 := Lib.hid hL3
    have HD := Lib.hid hD
    have HKd := Lib.hid hKd
    have HKl := Lib.hid hkdl
    have HRes := Lib.hid hRes
    have HEl := Lib.hid hEl
    clear hr hs hw hw2 hn hn2 hT hK hb1 hL1 hL2 hL3 hD hws hKd hkdl hRes hEu hEl hnm
    go_enter Tryd.func18, Tryd.ntmps18
    go_wp2_with fail
    refine HSec.out.mono ?_
    rintro e w1 ⟨rfl, rfl⟩
    go_wp2_with fail
    refine HNam.out.mono ?_
    rintro e w2 ⟨rfl, rfl⟩
    go_wp2_with fail
    refine HNum.out.mono ?_
    rintro e w2 ⟨rfl, rfl⟩
    go_wp2_with fail
    refine HNm.out.mono ?_
    rintro e w3 ⟨hb3, v3, rfl, hown3⟩
    obtain ⟨A3, c3, rfl, hc3, _⟩ := own_slice hown3
    have HR3 := Lib.hid ((RdC.of_own hown3).mono (ok' := (· < w3.heap.size)) fun _ h => h.2)
    have HB3 := Lib.hid hb3
    have hl0 : Below w3.heap.size w3 (w3.alloc (.cells #[Value.int .u8 116] 5 (1, 2))) := below_box _ _
    have hl1 := below_box (w3.alloc (.cells #[Value.int .u8 116] 5 (1, 2))) (.cells #[Value.int .u8 (who.size : Int)] 5)
    have hl2 := below_on hl0 hl1
    have hlit : ∀ j y, (bvs [116])[j]? = some y → ((w3.alloc (.cells #[Value.int .u8 116] 5 (1, 2))).alloc (.cells #[Value.int .u8 (who.size : Int)] 5)).cell? ((⟨w3.heap.size, 0, none⟩ : Addr).add j) = some y := fun j y h => (hl1.cell (by rw [add_block]; simp)).trans (lit_reads w3 [116] 5 (1, 2) j y h)
    have hrb := RdC.new (w3.alloc (.cells #[Value.int .u8 116] 5 (1, 2))) #[Value.int .u8 (who.size : Int)] 5
    rw [size_alloc1] at hrb
    have HL := Lib.hid hlit
    have HRb := Lib.hid hrb
    have HB34 := Lib.hid hl2
    clear hown3 hb3 hl0 hl1 hl2 hlit hrb
    go_wp2_with (
      at_builtin
      refine wpList_appFull (.tmp 29) (.tmp 33) 22 5 i0 (.int .u8 0) 1 rfl (by rfl) Tryd.underlying22 hi hz0 hz1 hz2 rfl (by omega) ⟨w3.heap.size, 0, none⟩ 1 (bvs [116]) (by rfl) rfl HL.out _ 1 1 _ (by rfl) (by rfl) (by omega) HRb.out (by omega) ?_
      intro v4 w4 hown4 hb4
      have hx4 : w4.ownsRow w3.heap.size 5 1 v4 ([116] ++ be who.size 1).length (bvs ([116] ++ be who.size 1)) := by
        rw [HL1.out, bvs_append, HB1.out]
        exact own_lower hown4 HB34.out.size
      have HO4 := Lib.hid hx4
      have HB4 := Lib.hid (below_on HB34.out hb4)
      generalize [116] ++ be who.size 1 = x1 at *
      obtain ⟨A4, c4, hv4, _, _⟩ := own_slice hx4
      subst hv4
      clear hown4 hx4 hb4
      go_wp2_with (
        at_builtin
        refine wpList_appStr _ w3.heap.size (.tmp 34) (.tmp 35) 22 9 5 i0 rfl (by rfl) Tryd.underlying22 Tryd.underlying9 hi hz0 hz1 hz2 _ x1 who (by rfl) (by rfl) HO4.out (by rw [HL1.out]; omega) HB4.out.size ?_
        intro v6 w6 hx6 hg6
        have HB6 := Lib.hid (hg6.below HB4.out HB4.out.size (own_base HO4.out))
        generalize x1 ++ who.data.toList = x2 at *
        have HO6 := Lib.hid hx6
        obtain ⟨A6, c6, hv6, _, _⟩ := own_slice hx6
        subst hv6
        have hl6 : Below w6.heap.size w6 (w6.alloc (.cells #[] 5 (0, 0))) := below_box _ _
        have HL6 := Lib.hid hl6
        have HO6e := Lib.hid (World.ownsRow_lit (base := w6.heap.size) (size := 1) (e := 5) w6 #[] 0 (Nat.le_refl _) (by omega) rfl)
        have HR6 := Lib.hid (HR3.out.toBelow (HB6.out.trans (hl6.mono HB6.out.size)) (Nat.le_trans HB6.out.size hl6.size))
        clear hx6 hg6 hl6
        go_wp2_with (
          at_builtin
          refine wpList_appS _ w6.heap.size (.tmp 37) (.tmp 38) 22 5 i0 (.int .u8 0) 1 1 rfl (by rfl) Tryd.underlying22 hi hz0 hz1 hz2 rfl (by omega) (by omega) _ 0 _ (by rfl) HO6e.out A3 8 c3 (bvs eu) (by rfl) (by rw [bvs_length, HEl.out]) HR6.out (bvs_one _) (by omega) HL6.out.size ?_
          intro v7 w7 hown7 hg7
          have HB7 := Lib.hid (hg7.below HL6.out HL6.out.size (own_base HO6e.out))
          have hx7 : w7.ownsRow w6.heap.size 5 1 v7 8 (bvs eu) := by simpa using hown7
          have HO7 := Lib.hid hx7
          obtain ⟨A7, c7, hv7, _, _⟩ := own_slice hx7
          subst hv7
          have HO67 := Lib.hid (own_below HO6.out HB7.out)
          have HB37 := Lib.hid (HB6.out.trans (HB7.out.mono HB6.out.size))
          have HR7 := Lib.hid (HR3.out.toBelow HB37.out HB37.out.size)
          clear hown7 hg7 hx7
          go_wp2_with (
            at_builtin
            refine wpList_appS _ w3.heap.size (.tmp 42) (.tmp 43) 22 5 i0 (.int .u8 0) 1 1 rfl (by rfl) Tryd.underlying22 hi hz0 hz1 hz2 rfl (by omega) (by omega) _ x2.length _ (by rfl) HO67.out A3 8 c3 (bvs eu) (by rfl) (by rw [bvs_length, HEl.out]) HR7.out (bvs_one _) (by rw [HL2.out]; omega) HB37.out.size ?_
            intro v8 w8 hown8 hg8
            have HB8 := Lib.hid (hg8.below HB37.out HB37.out.size (own_base HO67.out))
            have HO78 := Lib.hid (HO7.out.kept hg8.by_ (own_ne HO7.out HO6.out (Nat.le_refl _)))
            have hx8 : w8.ownsRow w3.heap.size 5 1 v8 (x2 ++ eu).length (bvs (x2 ++ eu)) := by
              rw [List.length_append, HEl.out, bvs_append]
              exact hown8
            clear hown8 hg8
            generalize x2 ++ eu = x3 at *
            obtain ⟨A8, c8, hv8, _, _⟩ := own_slice hx8
            subst hv8
            have HR8 := Lib.hid ((RdC.of_own hx8).mono (ok' := (· < w8.heap.size)) fun _ h => h.2)
            have HB28 := Lib.hid (HB3.out.trans (HB8.out.mono HB3.out.size))
            have HSz := Lib.hid (Nat.le_trans HB3.out.size HB6.out.size)
            clear hx8))))
    refine (rkeyed_any w8 H va vb base K A8 ck c8 key x3 (HT.out.below HB28.out) (HK.out.step HB28.out) HR8.out hkl (by rw [HL3.out]; omega)).mono ?_
    rw [HKd.out]
    rintro e w9 ⟨v9, rfl, hown9, hb9⟩
    obtain ⟨A9, c9, rfl, hc9, _⟩ := own_slice hown9
    have h24 : 24 ≤ c9 := by omega
    have hr9 := (RdC.of_own hown9).take 24
    rw [← bvs_take] at hr9
    have HR9 := Lib.hid hr9
    have HO79 := Lib.hid (own_lower (own_below HO78.out hb9) HSz.out)
    have HB29 := Lib.hid (below_on HB28.out hb9)
    have HTl := Lib.hid (show (kd.take 24).length = 24 by rw [List.length_take, HKl.out]; rfl)
    clear hown9 hb9 hr9
    go_wp2_with (
      at_builtin
      refine wpList_appS _ w2.heap.size (.tmp 39) (.tmp 46) 22 5 i0 (.int .u8 0) 1 1 rfl (by rfl) Tryd.underlying22 hi hz0 hz1 hz2 rfl (by omega) (by omega) _ 8 _ (by rfl) HO79.out A9 24 c9 (bvs (kd.take 24)) (by rfl) (by rw [bvs_length, HTl.out]) HR9.out (bvs_one _) (by omega) HB29.out.size ?_
      intro v10 w10 hown10 hg10
      have HB10 := Lib.hid (hg10.below HB29.out HB29.out.size (own_base HO79.out))
      have hx10 : w10.ownsRow w2.heap.size 5 1 v10 32 (bvs res) := by
        rw [← HRes.out, bvs_append]
        exact hown10
      obtain ⟨A10, c10, hv10, _, _⟩ := own_slice hx10
      subst hv10
      have HR10 := Lib.hid (RdC.of_own hx10)
      clear hown10 hg10 hx10)
    go_ret2
    exact ⟨HB10.out, A10, c10, by rw [HD.out]; rfl, by rw [HD.out]; assumption, HR10.out⟩
  · have hr : ticketR key who.data.toList n = .error .range := by unfold ticketR; rw [if_neg hok]
    rw [hr]
    clear hr kc hT hK
    cases hs : secretOk key with
    | false =>
      rw [hs] at HSec
      clear hok hs
      go_enter Tryd.func18, Tryd.ntmps18
      go_wp2_with fail
      refine HSec.out.mono ?_
      rintro e w1 ⟨rfl, rfl⟩
      go_wp2_with fail
      go_ret2
      exact ⟨Below.refl _ _, rfl⟩
    | true =>
      rw [hs] at HSec
      cases hw : whoOk who.data.toList with
      | false =>
        rw [hw] at HNam
        clear hok hs hw
        go_enter Tryd.func18, Tryd.ntmps18
        go_wp2_with fail
        refine HSec.out.mono ?_
        rintro e w1 ⟨rfl, rfl⟩
        go_wp2_with fail
        refine HNam.out.mono ?_
        rintro e w2 ⟨rfl, rfl⟩
        go_wp2_with fail
        go_ret2
        exact ⟨Below.refl _ _, rfl⟩
      | true =>
        rw [hw] at HNam
        cases hn : numOk n with
        | true => exact absurd ⟨hs, hw, hn⟩ hok
        | false =>
          rw [hn] at HNum
          clear hok hs hw hn
          go_enter Tryd.func18, Tryd.ntmps18
          go_wp2_with fail
          refine HSec.out.mono ?_
          rintro e w1 ⟨rfl, rfl⟩
          go_wp2_with fail
          refine HNam.out.mono ?_
          rintro e w2 ⟨rfl, rfl⟩
          go_wp2_with fail
          refine HNum.out.mono ?_
          rintro e w2 ⟨rfl, rfl⟩
          go_wp2_with fail
          go_ret2
          exact ⟨Below.refl _ _, rfl⟩
end Go.Proofs.YtnnokbipcenbgaaDoor
/- Walks of the reference of layer 10: Ticket. -/
set_option linter.unusedVariables false
set_option linter.unusedSimpArgs false
set_option linter.unnecessarySimpa false
namespace Go.Proofs.YtnnokbipcenbgaaDoor
open Go.RowKit

def openV : Except Er Nat → Nat
  | .ok u => u
  | .error _ => 0
def openE : Except Er Nat → Nat
  | .ok _ => 0
  | .error er => erIx er + 1
def ROpenP (w : World) (r : Except Er Nat) (e : Ending) (w' : World) : Prop := e = .returned (.tuple #[.int .i64 ((openV r : Nat) : Int), .int .i64 ((openE r : Nat) : Int)]) ∧ Below w.heap.size w w'
theorem u64_round (x b : Nat) (hx : x < 72057594037927936) (hb : b < 256) : IntKind.u64.wrap (256 * (x : Int)) = 256 * (x : Int) ∧ IntKind.u64.wrap (b : Int) = (b : Int) ∧ IntKind.u64.wrap (256 * (x : Int) + (b : Int)) = 256 * (x : Int) + (b : Int) := by
  refine ⟨?_, u64_nat _ (by omega), ?_⟩
  · have := u64_nat (256 * x) (by omega)
    rwa [Int.natCast_mul] at this
  · have := u64_nat (256 * x + b) (by omega)
    rwa [Int.natCast_add, Int.natCast_mul] at this
set_option maxRecDepth 8000 in
set_option maxHeartbeats 1600000 in
theorem ropen_any (w : World) (H : Nat) (va vb : Value) (base : Nat) (K T : Option Addr) (ck ct : Nat) (key t : Bs) (who : ByteArray) (hT : TableAt base w H va vb) (hK : RdC (· < w.heap.size) w K (bvs key)) (hkl : key.length ≤ 1099511627776) (hR : RdC (· < w.heap.size) w T (bvs t)) :
    Calls Tryd.prog 19 #[.pointer (some ⟨H, 0, none⟩), .slice K key.length ck, .string who, .slice T t.length ct] w (ROpenP w (openR key who.data.toList t)) := by
  have hsec := rsecret_any w K ck key (by omega)
  have hnam := rname_any w who (str_size who).symm
  have HSec := Lib.hid hsec
  have HNam := Lib.hid hnam
  have HT := Lib.hid hT
  have HK := Lib.hid hK
  have HR := Lib.hid hR
  clear hsec hnam hT hK hR
  by_cases hok : secretOk key = true ∧ whoOk who.data.toList = true
  · obtain ⟨hs, hw⟩ := hok
    rw [hs] at HSec
    rw [hw] at HNam
    by_cases hl : t.length = 32
    · have hl32 : (t.length : Int) = 32 := by omega
      have hres : ∀ u, num (t.take 8) = u → openR key who.data.toList t = if u ≤ 1099511627776 ∧ t = ticketB key who.data.toList u then .ok u else .error .proof := by
        rintro u rfl
        unfold openR
        rw [if_pos ⟨hs, hw⟩]
        simp only [hl, true_and]
      have HRes := Lib.hid hres
      have HS := Lib.hid hs
      have HW := Lib.hid hw
      clear hres hs hw
      generalize openR key who.data.toList t = r at *
      go_enter Tryd.func19, Tryd.ntmps19
      go_wp2_with fail
      refine HSec.out.mono ?_
      rintro e w1 ⟨rfl, rfl⟩
      go_wp2_with fail
      refine HNam.out.mono ?_
      rintro e w2 ⟨rfl, rfl⟩
      go_wp2_with fail
      go_loopw [10, 11] (fun a i wr => ∃ k : Nat, k ≤ 8 ∧ a = .int .u64 ((num (t.take k) : Nat) : Int) ∧ i = .int .i64 k ∧ wr = w2) (fun _ i _ => 8 - (intOf i).toNat)
      case atStart => exact ⟨0, by omega, rfl, rfl, rfl⟩
      case round =>
        obtain ⟨k, hk, rfl, rfl, rfl⟩ := hrel
        have i0 : (0 : Int) ≤ (k : Int) := by omega
        by_cases h8 : k < 8
        · have i1 : (k : Int) < 8 := by omega
          have hk32 : k < t.length := by omega
          have i2 : (k : Int) < 32 := by omega
          have i3 : IntKind.i64.wrap ((k : Int) + 1) = (k : Int) + 1 := IntWalk.i64_in _ (by omega)
          have hx1 := num_take_lt t k (by omega)
          have hx2 : 256 ^ k ≤ 256 ^ 7 := Nat.pow_le_pow_right (by omega) (by omega)
          have hx3 : (256 : Nat) ^ 7 = 72057594037927936 := by decide
          have hsn := num_take_snoc t k hk32
          obtain ⟨m1, m2, m3⟩ := u64_round (num (t.take k)) t[k].toNat (by omega) (UInt8.toNat_lt _)
          obtain ⟨ad, rfl, _, hc⟩ := bytes_at HR.out k hk32
          have HSn := Lib.hid hsn
          clear hsn hx1 hx2 hx3
          generalize num (t.take k) = x at *
          generalize t[k].toNat = y at *
          clear HSec HNam
          go_wp2_with fail
          go_roundw
          case rel => exact ⟨k + 1, by omega, by rw [HSn.out]; go_num, by go_num, trivial⟩
          case measure => simp [intOf]; omega
        · obtain rfl : k = 8 := by omega
          rw [show ((8 : Nat) : Int) = 8 from rfl]
          have hr := HRes.out _ rfl
          generalize num (t.take 8) = u at *
          by_cases hu : u ≤ 1099511627776
          · have hu1 : (u : Int) ≤ 1099511627776 := by omega
            have hu2 : ¬ 1099511627776 < (u : Int) := by omega
            have hwr : IntKind.i64.wrap (u : Int) = (u : Int) := IntWalk.i64_in _ (by omega)
            have htk := rticket_any wr H va vb base K ck key who (u : Int) HT.out HK.out hkl
            have htr : ticketR key who.data.toList (u : Int) = .ok (ticketB key who.data.toList u) := by
              unfold ticketR
              rw [if_pos ⟨HS.out, HW.out, decide_eq_true ⟨by omega, hu1⟩⟩]
              rfl
            rw [htr] at htk
            have htl := ticketB_len key who.data.toList u
            have HTk := Lib.hid htk
            have HTl := Lib.hid htl
            clear htk htr htl HSec HNam i0
            have HR2 := Lib.hid hr
            clear hr
            generalize ticketB key who.data.toList u = d at *
            go_wp2_with fail
            refine HTk.out.mono ?_
            rintro e w3 ⟨hb3, A3, c3, rfl, hc3, hr3⟩
            have f1 : (convert 22 9 (.slice A3 32 c3)).run Tryd.prog w3 = .ok (.string ⟨d.toArray⟩) w3 := run_str_of Tryd.underlying22 Tryd.underlying5 Tryd.underlying9 HTl.out.symm hr3
            have f2 : (convert 22 9 (.slice T 32 ct)).run Tryd.prog w3 = .ok (.string ⟨t.toArray⟩) w3 := run_str_of Tryd.underlying22 Tryd.underlying5 Tryd.underlying9 hl.symm (HR.out.step hb3)
            have HB3 := Lib.hid hb3
            rw [HTl.out]
            clear hb3 hr3
            by_cases htd : t = d
            · have hrr : r = .ok u := by rw [HR2.out, if_pos ⟨hu, htd⟩]
              subst hrr
              subst htd
              clear HR2 HTk HRes
              go_wp2_with fail
              go_ret2
              exact ⟨rfl, HB3.out⟩
            · have hrr : r = .error .proof := by rw [HR2.out, if_neg fun h => htd h.2]
              subst hrr
              have hb1 : (d == t) = false := beq_eq_false_iff_ne.2 fun h => htd h.symm
              clear HR2 HTk HRes htd
              go_wp2_with fail
              go_ret2
              exact ⟨rfl, HB3.out⟩
          · have hu2 : 1099511627776 < (u : Int) := by omega
            have hrr : r = .error .proof := by rw [hr, if_neg fun h => hu h.1]
            subst hrr
            clear hr HSec HNam i0 HRes
            go_wp2_with fail
            go_ret2
            exact ⟨rfl, Below.refl _ _⟩
    · have hl32 : ¬ (t.length : Int) = 32 := by omega
      have hr : openR key who.data.toList t = .error .proof := by
        unfold openR
        rw [if_pos ⟨hs, hw⟩, if_neg fun h => hl h.1]
      rw [hr]
      clear hs hw hr hl
      go_enter Tryd.func19, Tryd.ntmps19
      go_wp2_with fail
      refine HSec.out.mono ?_
      rintro e w1 ⟨rfl, rfl⟩
      go_wp2_with fail
      refine HNam.out.mono ?_
      rintro e w2 ⟨rfl, rfl⟩
      go_wp2_with fail
      go_ret2
      exact ⟨rfl, Below.refl _ _⟩
  · have hr : openR key who.data.toList t = .error .range := by unfold openR; rw [if_neg hok]
    rw [hr]
    cases hs : secretOk key with
    | false =>
      rw [hs] at HSec
      clear hok hs hr
      go_enter Tryd.func19, Tryd.ntmps19
      go_wp2_with fail
      refine HSec.out.mono ?_
      rintro e w1 ⟨rfl, rfl⟩
      go_wp2_with fail
      go_ret2
      exact ⟨rfl, Below.refl _ _⟩
    | true =>
      rw [hs] at HSec
      cases hw : whoOk who.data.toList with
      | true => exact absurd ⟨hs, hw⟩ hok
      | false =>
        rw [hw] at HNam
        clear hok hs hw hr
        go_enter Tryd.func19, Tryd.ntmps19
        go_wp2_with fail
        refine HSec.out.mono ?_
        rintro e w1 ⟨rfl, rfl⟩
        go_wp2_with fail
        refine HNam.out.mono ?_
        rintro e w2 ⟨rfl, rfl⟩
        go_wp2_with fail
        go_ret2
        exact ⟨rfl, Below.refl _ _⟩
end Go.Proofs.YtnnokbipcenbgaaDoor
