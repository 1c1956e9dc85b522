/- Walks of the reference of layer 10: Prove. -/
import Derived.Test.YtnnokbipcenbgaaDoorRk
import Derived.Test.YtnnokbipcenbgaaDoorRq
import Derived.Test.YtnnokbipcenbgaaDoorAf
import Derived.Lib.SlBytesConst
set_option linter.unusedVariables false
set_option linter.unusedSimpArgs false
set_option linter.unnecessarySimpa false
namespace Go.Proofs.YtnnokbipcenbgaaDoor
open Go.RowKit

/-- A call of the reference that answers bytes and whether there are any. -/
def RTold (w : World) (r : Except Er Bs) (e : Ending) (w' : World) : Prop :=
  Below w.heap.size w w' ∧ match r with
  | .ok d => ∃ A c, e = .returned (.tuple #[.slice A d.length c, .bool true]) ∧ d.length ≤ c ∧ RdC (fun k => w.heap.size ≤ k ∧ k < w'.heap.size) w' A (bvs d)
  | .error _ => e = .returned (.tuple #[.slice none 0 0, .bool false])
theorem nonceB_len (key : Bs) (n : Nat) : (nonceB key n).length = 16 := by unfold nonceB; rw [List.length_take, keyed_len]; rfl
theorem lit_reads (w : World) (bs : Bs) (t : TypeId) (fr : Nat × Nat) (j : Nat) (u : Value) (h : (bvs bs)[j]? = some u) : (w.alloc (.cells (bvs bs).toArray t fr)).cell? ((⟨w.heap.size, 0, none⟩ : Addr).add j) = some u := by
  have hr : RdC (· < w.heap.size + 1) (w.alloc (.cells (bvs bs).toArray t fr)) (some ⟨w.heap.size, 0, none⟩) (bvs bs) := fun _ => ⟨_, rfl, by simp, World.news_of_block (cs := (bvs bs).toArray) (t := t) (fr := fr) (heap_alloc_new _ _)⟩
  obtain ⟨ad, hA, _, hc⟩ := hr (by intro e; rw [e] at h; simp at h)
  cases hA
  exact hc j u h
set_option maxRecDepth 8000 in
set_option maxHeartbeats 1600000 in
theorem rnonce_any (w : World) (H : Nat) (va vb : Value) (base : Nat) (K : Option Addr) (ck : Nat) (key : Bs) (n : Int) (hT : TableAt base w H va vb) (hK : RdC (· < w.heap.size) w K (bvs key)) (hkl : key.length ≤ 1099511627776) :
    Calls Tryd.prog 16 #[.pointer (some ⟨H, 0, none⟩), .slice K key.length ck, .int .i64 n] w (RTold w (nonceR key n)) := by
  obtain ⟨i0, hi, hz0, hz1, hz2⟩ := info_parts infoU8h
  have kc := fun (w : World) (C : Array Value) (n c : Nat) => Lib.run_convert_bytes_const (P := Tryd.prog) w 22 5 C n c Tryd.underlying22 Tryd.underlying5
  cases hs : secretOk key with
  | false =>
    have hr : nonceR key n = .error .range := by unfold nonceR; rw [if_neg (by rw [hs]; simp)]
    rw [hr]
    have hsec := rsecret_any w K ck key (by omega)
    rw [hs] at hsec
    have HSec := Lib.hid hsec
    clear hs hsec hT hK hr kc
    go_enter Tryd.func16, Tryd.ntmps16
    go_wp2_with fail
    refine HSec.out.mono ?_
    rintro e w1 ⟨rfl, rfl⟩
    go_wp2_with fail
    go_ret2
    exact ⟨Below.refl _ _, rfl⟩
  | true =>
    have hsec := rsecret_any w K ck key (by omega)
    rw [hs] at hsec
    have HSec := Lib.hid hsec
    cases hn : numOk n with
    | false =>
      have hr : nonceR key n = .error .range := by unfold nonceR; rw [if_neg (by rw [hn]; simp)]
      rw [hr]
      have hnum := rnum_any w n
      rw [hn] at hnum
      have HNum := Lib.hid hnum
      clear hs hsec hn hnum hT hK hr kc
      go_enter Tryd.func16, Tryd.ntmps16
      go_wp2_with fail
      refine HSec.out.mono ?_
      rintro e w1 ⟨rfl, rfl⟩
      go_wp2_with fail
      refine HNum.out.mono ?_
      rintro e w2 ⟨rfl, rfl⟩
      go_wp2_with fail
      go_ret2
      exact ⟨Below.refl _ _, rfl⟩
    | true =>
      have hr : nonceR key n = .ok (nonceB key n.toNat) := by unfold nonceR; rw [if_pos ⟨hs, hn⟩]
      rw [hr]
      have hn2 := of_decide_eq_true hn
      obtain ⟨u, rfl⟩ : ∃ u : Nat, n = (u : Int) := ⟨n.toNat, by omega⟩
      have hnum := rnum_any w (u : Int)
      rw [hn] at hnum
      have HNum := Lib.hid hnum
      rw [Int.toNat_natCast]
      have hu : (u : Int) ≤ 1099511627776 := hn2.2
      have hwu : IntKind.u64.wrap (u : Int) = (u : Int) := u64_nat _ (by omega)
      have HT := Lib.hid hT
      have HK := Lib.hid hK
      clear hs hsec hn hn2 hnum hT hK hr
      go_enter Tryd.func16, Tryd.ntmps16
      go_wp2_with fail
      refine HSec.out.mono ?_
      rintro e w1 ⟨rfl, rfl⟩
      go_wp2_with fail
      refine HNum.out.mono ?_
      rintro e w2 ⟨rfl, rfl⟩
      go_wp2_with fail
      have hb0 : Below w2.heap.size w2 (w2.alloc (.cells #[Value.int .u8 110] 5 (1, 2))) := below_box _ _
      refine (rnumber_any u 8 _ (by omega) (by omega)).mono ?_
      rintro e w3 ⟨hb3, v3, rfl, hown3⟩
      have hlit : ∀ j y, (bvs [110])[j]? = some y → w3.cell? ((⟨w2.heap.size, 0, none⟩ : Addr).add j) = some y := fun j y h => (hb3.cell (by rw [add_block]; simp)).trans (lit_reads w2 [110] 5 (1, 2) j y h)
      obtain ⟨A3, c3, rfl, _, _⟩ := own_slice hown3
      have HR3 := Lib.hid (RdC.of_own hown3)
      have HB3 := Lib.hid (below_on hb0 hb3)
      have HL := Lib.hid hlit
      have HLb := Lib.hid (bvs_length (be u 8))
      clear hown3 hb3 hlit hb0
      go_wp2_with (
        at_builtin
        refine wpList_appFull _ _ 22 5 i0 (.int .u8 0) 1 rfl (by rfl) Tryd.underlying22 hi hz0 hz1 hz2 rfl (by omega) ⟨w2.heap.size, 0, none⟩ 1 (bvs [110]) (by rfl) rfl HL.out A3 8 c3 (bvs (be u 8)) (by rfl) (by rw [HLb.out, be_length]) (by omega) HR3.out (by omega) ?_
        intro v4 w4 hown4 hb4
        have hx4 : w4.ownsRow w3.heap.size 5 1 v4 (110 :: be u 8).length (bvs (110 :: be u 8)) := by
          rw [List.length_cons, be_length]
          exact hown4
        have HLx := Lib.hid (show (110 :: be u 8).length = 9 by rw [List.length_cons, be_length])
        have HNb := Lib.hid (show nonceB key u = (keyed key (110 :: be u 8)).take 16 from rfl)
        have HNl := Lib.hid (nonceB_len key u)
        obtain ⟨A4, c4, rfl, _, _⟩ := own_slice hx4
        have HR4 := Lib.hid ((RdC.of_own hx4).mono (ok' := (· < w4.heap.size)) fun _ h => h.2)
        have HB4 := Lib.hid (below_on HB3.out hb4)
        generalize nonceB key u = res at *
        generalize 110 :: be u 8 = x at *
        clear hown4 hx4 hb4)
      have hk := rkeyed_any w4 H va vb base K A4 ck c4 key x (HT.out.below HB4.out) (HK.out.step HB4.out) HR4.out hkl (by rw [HLx.out]; omega)
      refine hk.mono ?_
      rintro e w5 ⟨v5, rfl, hown5, hb5⟩
      obtain ⟨A5, c5, rfl, hc5, _⟩ := own_slice hown5
      have HR5 := Lib.hid (RdC.of_own hown5)
      have HB5 := Lib.hid (below_on HB4.out hb5)
      have HS4 := Lib.hid HB4.out.size
      clear hown5 hb5 hk
      have h16 : 16 ≤ c5 := by omega
      go_wp2_with fail
      go_ret2
      exact ⟨HB5.out, A5, c5, by rw [HNl.out]; rfl, by rw [HNl.out]; exact h16, by rw [HNb.out, bvs_take]; exact (HR5.out.take 16).mono fun k hk => ⟨Nat.le_trans HS4.out hk.1, hk.2⟩⟩
end Go.Proofs.YtnnokbipcenbgaaDoor
/- Walks of the reference of layer 10: Nonce, Prove. -/
set_option linter.unusedVariables false
set_option linter.unusedSimpArgs false
set_option linter.unnecessarySimpa false
namespace Go.Proofs.YtnnokbipcenbgaaDoor
open Go.RowKit

theorem proveB_eq (token nonce who : Bs) (h : nonce.length = 16) : proveB token nonce who = keyed token ((([112, 0, 16] ++ nonce) ++ be who.length 1) ++ who) := by
  unfold proveB
  rw [h, show be 16 2 = [0, 16] by decide]
  simp
theorem bvs_be1 (n : Nat) (h : n ≤ 255) : bvs (be n 1) = [.int .u8 (n : Int)] := by
  simp [be, bvs, bv]
  omega
set_option maxRecDepth 8000 in
set_option maxHeartbeats 1600000 in
theorem rprove_any (w : World) (H : Nat) (va vb : Value) (base : Nat) (K N : Option Addr) (ck cn : Nat) (key nonce : Bs) (who : ByteArray) (hT : TableAt base w H va vb) (hK : RdC (· < w.heap.size) w K (bvs key)) (hkl : key.length ≤ 1099511627776) (hN : RdC (· < w.heap.size) w N (bvs nonce)) :
    Calls Tryd.prog 17 #[.pointer (some ⟨H, 0, none⟩), .slice K key.length ck, .slice N nonce.length cn, .string who] w (RTold w (proveR key nonce who.data.toList)) := by
  obtain ⟨i0, hi, hz0, hz1, hz2⟩ := info_parts infoU8h
  have kc := fun (w : World) (C : Array Value) (n c : Nat) => Lib.run_convert_bytes_const (P := Tryd.prog) w 22 5 C n c Tryd.underlying22 Tryd.underlying5
  have hsec := rsecret_any w K ck key (by omega)
  have hnam := rname_any w who (str_size who).symm
  have hws := str_size who
  have HSec := Lib.hid hsec
  have HNam := Lib.hid hnam
  clear hsec hnam
  by_cases hok : secretOk key = true ∧ nonce.length = 16 ∧ whoOk who.data.toList = true
  · obtain ⟨hs, hnl, hw⟩ := hok
    have hr : proveR key nonce who.data.toList = .ok (proveB key nonce who.data.toList) := by unfold proveR; rw [if_pos ⟨hs, hnl, hw⟩]
    rw [hr, proveB_eq _ _ _ hnl]
    have hw2 := of_decide_eq_true hw
    rw [hs] at HSec
    rw [hw] at HNam
    have hn16 : (nonce.length : Int) = 16 := by omega
    have hwu : IntKind.u8.wrap (who.size : Int) = (who.size : Int) := IntWalk.u8_in _ (by omega)
    have hb1 := bvs_be1 who.data.toList.length (by omega)
    rw [hws] at hb1
    have hL0 : ([112, 0, 16] ++ nonce : Bs).length = 19 := by simp; omega
    have hL1 : (([112, 0, 16] ++ nonce) ++ be who.data.toList.length 1 : Bs).length = 20 := by rw [List.length_append, hL0, be_length]
    have hL2 : ((([112, 0, 16] ++ nonce) ++ be who.data.toList.length 1) ++ who.data.toList : Bs).length = 20 + who.size := by rw [List.length_append, hL1, hws]
    have hw16 : who.size ≤ 16 := by omega
    have hD : (keyed key ((([112, 0, 16] ++ nonce) ++ be who.data.toList.length 1) ++ who.data.toList)).length = 32 := keyed_len _ _
    obtain ⟨res, hKd⟩ : ∃ r, keyed key ((([112, 0, 16] ++ nonce) ++ be who.data.toList.length 1) ++ who.data.toList) = r := ⟨_, rfl⟩
    rw [hKd] at hD ⊢
    rw [hws] at hKd hL1 hL2
    have HKd := Lib.hid hKd
    clear hKd
    have HT := Lib.hid hT
    have HK := Lib.hid hK
    have HN := Lib.hid hN
    have HB1 := Lib.hid hb1
    have HL0 := Lib.hid hL0
    have HL1 := Lib.hid hL1
    have HL2 := Lib.hid hL2
    have HD := Lib.hid hD
    have HNl := Lib.hid hnl
    clear hr hs hw hw2 hT hK hN hb1 hL0 hL1 hL2 hD hws hnl
    go_enter Tryd.func17, Tryd.ntmps17
    go_wp2_with fail
    refine HSec.out.mono ?_
    rintro e w1 ⟨rfl, rfl⟩
    go_wp2_with fail
    refine HNam.out.mono ?_
    rintro e w2 ⟨rfl, rfl⟩
    have hb0 : Below w2.heap.size w2 (w2.alloc (.cells #[Value.int .u8 112, Value.int .u8 0, Value.int .u8 16] 5 (3, 4))) := below_box _ _
    have HB0 := Lib.hid hb0
    have HLit := Lib.hid (lit_reads w2 [112, 0, 16] 5 (3, 4))
    have HN0 := Lib.hid (HN.out.below hb0)
    clear hb0
    go_wp2_with (
      at_builtin
      refine wpList_appFull (.tmp 25) (.tmp 26) 22 5 i0 (.int .u8 0) 1 rfl (by rfl) Tryd.underlying22 hi hz0 hz1 hz2 rfl (by omega) ⟨w2.heap.size, 0, none⟩ 3 (bvs [112, 0, 16]) (by rfl) rfl HLit.out N nonce.length cn (bvs nonce) (by rfl) (by rw [bvs_length]) (by rw [HNl.out]; omega) HN0.out (by rw [HNl.out]; omega) ?_
      intro v4 w4 hown4 hb4
      have hx4 : w4.ownsRow w2.heap.size 5 1 v4 19 (bvs ([112, 0, 16] ++ nonce)) := by
        rw [HNl.out] at hown4
        rw [bvs_append]
        exact own_lower hown4 HB0.out.size
      have HO4 := Lib.hid hx4
      have HB4 := Lib.hid (below_on HB0.out hb4)
      have HL4 := Lib.hid hb4.size
      generalize [112, 0, 16] ++ nonce = x0 at *
      obtain ⟨A4, c4, hv4, _, _⟩ := own_slice hx4
      subst hv4
      have hbox := below_box w4 (.cells #[Value.int .u8 (who.size : Int)] 5)
      have HBox := Lib.hid hbox
      have HO5 := Lib.hid (own_below hx4 hbox)
      have HR5 := Lib.hid (RdC.new w4 #[Value.int .u8 (who.size : Int)] 5)
      have HB5 := Lib.hid (below_on HB4.out hbox)
      clear hown4 hx4 hb4 hbox
      go_wp2_with (
        at_builtin
        refine wpList_appS _ w2.heap.size (.tmp 28) (.tmp 32) 22 5 i0 (.int .u8 0) 1 1 rfl (by rfl) Tryd.underlying22 hi hz0 hz1 hz2 rfl (by omega) (by omega) _ 19 _ (by rfl) HO5.out _ 1 _ _ (by rfl) (by rfl) HR5.out (by intro y hy; simp at hy; subst hy; rfl) (by omega) HB5.out.size ?_
        intro v6 w6 hown6 hg6
        have hx6 : w6.ownsRow w2.heap.size 5 1 v6 (x0 ++ be who.size 1).length (bvs (x0 ++ be who.size 1)) := by
          rw [HL1.out, bvs_append, HB1.out]
          exact hown6
        have HB6 := Lib.hid (hg6.below HB5.out HB5.out.size (own_base HO5.out))
        have HO6 := Lib.hid hx6
        clear hown6 hg6
        generalize x0 ++ be who.size 1 = x1 at *
        obtain ⟨A6, c6, hv6, _, _⟩ := own_slice hx6
        subst hv6
        clear hx6
        go_wp2_with (
          at_builtin
          refine wpList_appStr _ w2.heap.size (.tmp 33) (.tmp 34) 22 9 5 i0 rfl (by rfl) Tryd.underlying22 Tryd.underlying9 hi hz0 hz1 hz2 _ x1 who (by rfl) (by rfl) HO6.out (by rw [HL1.out]; omega) HB6.out.size ?_
          intro v7 w7 hx7 hg7
          have HB7 := Lib.hid (hg7.below HB6.out HB6.out.size (own_base HO6.out))
          clear hg7
          generalize x1 ++ who.data.toList = x2 at *
          obtain ⟨A7, c7, hv7, _, _⟩ := own_slice hx7
          subst hv7
          have HR7 := Lib.hid ((RdC.of_own hx7).mono (ok' := (· < w7.heap.size)) fun _ h => h.2)
          clear hx7)))
    refine (rkeyed_any w7 H va vb base K A7 ck c7 key x2 (HT.out.below HB7.out) (HK.out.step HB7.out) HR7.out hkl (by rw [HL2.out]; omega)).mono ?_
    rintro e w8 ⟨v8, rfl, hown8, hb8⟩
    obtain ⟨A8, c8, rfl, hc8, _⟩ := own_slice hown8
    have HR8 := Lib.hid (RdC.of_own hown8)
    have HB8 := Lib.hid (below_on HB7.out hb8)
    have HS8 := Lib.hid HB7.out.size
    clear hown8 hb8
    go_wp2_with fail
    go_ret2
    exact ⟨HB8.out, A8, c8, by rw [HD.out]; rfl, by rw [HD.out]; exact hc8, by rw [← HKd.out]; exact HR8.out.mono fun k hk => ⟨Nat.le_trans HS8.out hk.1, hk.2⟩⟩
  · have hr : proveR key nonce who.data.toList = .error .range := by unfold proveR; rw [if_neg hok]
    rw [hr]
    clear hr kc hT hK hN
    cases hs : secretOk key with
    | false =>
      rw [hs] at HSec
      clear hok hs
      go_enter Tryd.func17, Tryd.ntmps17
      go_wp2_with fail
      refine HSec.out.mono ?_
      rintro e w1 ⟨rfl, rfl⟩
      go_wp2_with fail
      go_ret2
      exact ⟨Below.refl _ _, rfl⟩
    | true =>
      rw [hs] at HSec
      by_cases hnl : nonce.length = 16
      · cases hw : whoOk who.data.toList with
        | true => exact absurd ⟨hs, hnl, hw⟩ hok
        | false =>
          rw [hw] at HNam
          have hn16 : (nonce.length : Int) = 16 := by omega
          clear hok hs hw hnl
          go_enter Tryd.func17, Tryd.ntmps17
          go_wp2_with fail
          refine HSec.out.mono ?_
          rintro e w1 ⟨rfl, rfl⟩
          go_wp2_with fail
          refine HNam.out.mono ?_
          rintro e w2 ⟨rfl, rfl⟩
          go_wp2_with fail
          go_ret2
          exact ⟨Below.refl _ _, rfl⟩
      · have hn16 : ¬ (nonce.length : Int) = 16 := by omega
        clear hok hs hnl
        go_enter Tryd.func17, Tryd.ntmps17
        go_wp2_with fail
        refine HSec.out.mono ?_
        rintro e w1 ⟨rfl, rfl⟩
        go_wp2_with fail
        go_ret2
        exact ⟨Below.refl _ _, rfl⟩
end Go.Proofs.YtnnokbipcenbgaaDoor
