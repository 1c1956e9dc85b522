/- FieldsCuts' walk. -/
import Derived.Test.YtkencpfmbcjppaaDoorLp
import Derived.LaidEql
set_option linter.unusedVariables false
set_option linter.unusedSimpArgs false
set_option linter.unnecessarySimpa false
namespace Go.Proofs.YtkencpfmbcjppaaDoor
open Go.RowKit
attribute [local go_sem] run_store_flt cellV errV

theorem infoErr : (Tryd.prog.info? 78).map (fun i => i.comparable) = some true := by kernel_rfl
theorem infoErrS : (Tryd.prog.info? 96).map (fun i => i.size) = some 1 := by kernel_rfl
theorem run_err_same (a : Addr) (w : World) : (binOp .eql 26 (.iface 78 (.pointer (some a))) (.iface 78 (.pointer (some a)))).run Tryd.prog w = .ok (.bool true) w := by
  obtain ⟨i, hi, hc⟩ := Option.map_eq_some_iff.1 infoErr
  obtain ⟨j, hj, hs⟩ := Option.map_eq_some_iff.1 infoErrS
  exact run_eql_iface_ptr_same w a Tryd.underlying26 Tryd.underlying78 hi hc hj
set_option maxRecDepth 4000 in
set_option maxHeartbeats 1000000 in
theorem cuts_ok (es : Er → Addr) (w : World) (s : ByteArray) (A : Option Addr) (c : Nat) (cells : List Cell) (bs : Bs) (cut : Int) (m : UInt8) (hE : E5 w.heap.size w es) (hs : s.size ≤ 2000000) (hcl : cells.length ≤ 2000000)
    (hcost : cost cells ≤ 100000000) (hnum : ∀ c ∈ cells, c.f < 18446744073709551616 ∧ c.n ≤ 9223372036854775807) (hR : RdC (· < w.heap.size) w A (cells.flatMap cellVs)) (hcut1 : -9223372036854775808 ≤ cut) (hcut2 : cut ≤ 9223372036854775807)
    (h1 : encode s.data.toList cells = .ok bs) (hb0 : 0 < bs.length) :
    Calls Tryd.prog 9 #[.agg #[.string s, .slice A cells.length c, .int .i64 cut, .int .u8 m.toNat]] w (OkPost w) := by
  obtain ⟨i0, hi, hz0, hz1, hz2⟩ := info_parts infoU8
  obtain ⟨hkn, hlen, hall⟩ := encode_ok h1
  have hbl := encAll_len _ _ _ hall
  have H1 := Lib.hid h1
  have HM := Lib.hid hnum
  have HT := Lib.hid (dec_tail m h1 hnum)
  have HS := Lib.hid (fun k hk => dec_short k h1 hnum hk)
  clear h1 hnum hkn hlen hall
  go_enter Tryd.func9, Tryd.ntmps9
  go_wp2_with fail
  go_quiet (fail)
  go_wp2_with fail
  have hbq : Below w.heap.size w ((w.alloc (.cells #[.string s, .slice A cells.length c, .int .i64 cut, .int .u8 m.toNat] 58)).drewN nq) := below_drewN ((Below.refl _ _).alloc (Nat.le_refl _) _) _
  generalize (w.alloc (.cells #[.string s, .slice A cells.length c, .int .i64 cut, .int .u8 m.toNat] 58)).drewN nq = w9 at *
  have HE9 := Lib.hid (hE.step hbq)
  have HB9 := Lib.hid hbq
  have HR9 := Lib.hid (hR.step hbq)
  clear hbq hE hR
  refine (alive_any es w9 HE9.out).mono ?_
  rintro e w0 ⟨rfl, hb0⟩
  have HE0 := Lib.hid (HE9.out.step hb0)
  have HB0 := Lib.hid (show Below w.heap.size w w0 from HB9.out.trans (hb0.mono HB9.out.size))
  have HR0 := Lib.hid (HR9.out.step hb0)
  clear hb0 HE9 HB9 HR9
  go_wp2_with fail
  have hen := encode_any es w0 s A cells.length c cells rfl HE0.out HR0.out (by unfold maxLen; omega) (by unfold maxLen; omega) (by omega) (fun c hc => (HM.out c hc).2)
  rw [H1.out] at hen
  refine hen.mono ?_
  rintro e w1 ⟨hb1, v1, rfl, hown1⟩
  obtain ⟨A1, c1, rfl, hc1, _⟩ := own_slice hown1
  have HE1 := Lib.hid (HE0.out.step hb1)
  have HB1 := Lib.hid (show Below w.heap.size w w1 from HB0.out.trans (hb1.mono HB0.out.size))
  have hrd1 : RdC (· < w1.heap.size) w1 A1 (bvs bs) := (RdC.of_own hown1).mono (fun _ h => h.2)
  have HR1 := Lib.hid hrd1
  clear hb1 hen HE0 HB0 HR0 hrd1 hown1
  have hz := World.ownsRow_lit (base := w1.heap.size) (e := 5) (size := 1) w1 #[] 0 (Nat.le_refl _) (by simp [maxLen]) (by simp)
  have HZ := Lib.hid hz
  have HA : Below w1.heap.size w1 (w1.alloc (.cells #[] 5)) := (Below.refl _ _).alloc (Nat.le_refl _) _
  have HAl := Lib.hid HA
  clear hz HA
  go_wp2_with (first
    | (at_builtin; refine wpList_appS (ok := fun b => b < w1.heap.size) _ w1.heap.size (.tmp 35) (.tmp 36) 23 5 i0 (.int .u8 0) 1 1 rfl (by rfl) Tryd.underlying23 hi hz0 hz1 hz2 rfl (by omega) (by omega) _ 0 [] (by rfl) HZ.out A1 bs.length c1 (bvs bs) (by rfl) (by simp)
        (HR1.out.below HAl.out) (bvs_one bs) (by omega) (by simp) ?_; intro v1 w2 hown1 hg1; have HB2 := Lib.hid (show Below w1.heap.size w1 w2 from hg1.below HAl.out (by simp) (own_base HZ.out)); have HO1 := Lib.hid hown1; clear hg1 hown1)
    | (at_builtin; refine wpList_app1 w1.heap.size _ _ 23 5 i0 (.int .u8 0) 1 rfl (by rfl) Tryd.underlying23 hi hz0 hz1 hz2 rfl (by decide) _ (0 + bs.length) ([] ++ bvs bs) (.int .u8 m.toNat) (by rfl) _ rfl (by rfl) HO1.out rfl (by omega) (by exact HB2.out.size) ?_; intro v2 w3 hown2 hg2))
  have hb3w : Below w1.heap.size w1 w3 := hg2.below HB2.out HB2.out.size (own_base HO1.out)
  have hown3 : w3.ownsRow w1.heap.size 5 1 v2 (bs ++ [m]).length (bvs (bs ++ [m])) := by
    rw [bvs_append, List.length_append]
    simpa [bvs, bv] using hown2
  obtain ⟨A3, c3, rfl, hc3, _⟩ := own_slice hown3
  have hR3 : RdC (· < w3.heap.size) w3 A3 (bvs (bs ++ [m])) := (RdC.of_own hown3).mono (fun _ h => h.2)
  have hE3 : E5 w3.heap.size w3 es := HE1.out.step hb3w
  have HR13 := Lib.hid (HR1.out.step hb3w)
  have HB3 := Lib.hid (show Below w.heap.size w w3 from HB1.out.trans (hb3w.mono HB1.out.size))
  have hd3 := decode_any es w3 s A3 (bs ++ [m]).length c3 (bs ++ [m]) rfl hE3 hR3 (by omega) hc3 (by rw [List.length_append, List.length_singleton]; omega)
  rw [HT.out] at hd3
  refine hd3.mono ?_
  rintro e w4 ⟨hb4, rfl⟩
  have HE4 := Lib.hid (hE3.step hb4)
  have HB4 := Lib.hid (show Below w.heap.size w w4 from HB3.out.trans (hb4.mono HB3.out.size))
  have HR4 := Lib.hid (HR13.out.step hb4)
  clear hb3w hown2 hg2 hown3 hc3 hR3 hE3 hd3 hb4 HB3 HR13 HB2 HO1 HZ HAl HE1 HB1 HR1
  have L0 : ¬ ((bs.length : Int) = 0) := by omega
  have hm1 := Int.tmod_lt_of_pos cut (show (0 : Int) < (bs.length : Int) by omega)
  have hm2 : -((bs.length : Int)) < cut.tmod (bs.length : Int) := by
    have := Int.lt_tmod_of_pos cut (show (0 : Int) < (bs.length : Int) by omega)
    omega
  have n1 : 0 ≤ cut.tmod (bs.length : Int) + (bs.length : Int) := by omega
  have m1 := Int.tmod_lt_of_pos (cut.tmod (bs.length : Int) + (bs.length : Int)) (show (0 : Int) < (bs.length : Int) by omega)
  have m2 := Int.tmod_nonneg (bs.length : Int) n1
  have u1 : IntKind.i64.wrap (cut.tmod (bs.length : Int)) = cut.tmod (bs.length : Int) := IntWalk.i64_in _ (by omega)
  have u2 : IntKind.i64.wrap (cut.tmod (bs.length : Int) + (bs.length : Int)) = cut.tmod (bs.length : Int) + (bs.length : Int) := IntWalk.i64_in _ (by omega)
  obtain ⟨k, hk⟩ : ∃ k : Nat, (cut.tmod (bs.length : Int) + (bs.length : Int)).tmod (bs.length : Int) = (k : Int) := ⟨_, (Int.toNat_of_nonneg m2).symm⟩
  have hkl : k < bs.length := by omega
  have u3 : IntKind.i64.wrap (k : Int) = (k : Int) := IntWalk.i64_in _ (by omega)
  have k0 : (0 : Int) ≤ (k : Int) := by omega
  have k1 : (k : Int) ≤ (c1 : Int) := by omega
  have heq := run_err_same
  obtain ⟨hgT0, _, hcT0, _⟩ := HE4.out.tail
  clear m1 m2 n1 hm1 hm2
  obtain ⟨q1, q2, q3⟩ := HS.out k hkl
  have hlk : (bs.take k).length = k := by rw [List.length_take]; omega
  have hrk : RdC (· < w4.heap.size) w4 A1 (bvs (bs.take k)) := by
    have := HR4.out.take k
    simpa [bvs, List.map_take] using this
  have hd4 := decode_any es w4 s A1 k c1 (bs.take k) hlk.symm HE4.out hrk (by omega) (by omega) (by omega)
  rw [q1] at hd4
  have HD4 := Lib.hid hd4
  have HRk := Lib.hid hrk
  have HQ2 := Lib.hid q2
  have HQ3 := Lib.hid q3
  have HLK := Lib.hid hlk
  clear hd4 hrk q1 q2 q3 hlk
  go_wp2_with fail
  refine HD4.out.mono ?_
  rintro e w5 ⟨hb5, rfl⟩
  have HE5 := Lib.hid (HE4.out.step hb5)
  have HB5 := Lib.hid (show Below w.heap.size w w5 from HB4.out.trans (hb5.mono HB4.out.size))
  have hs5 := some_any es w5 s A1 k c1 (bs.take k) HLK.out.symm HE5.out (HRk.out.step hb5) (by omega) (by have := HLK.out; omega) (by have := HLK.out; omega)
  have HS5 := Lib.hid hs5
  clear hb5 hs5 HE4 HB4 HR4 HRk
  go_wp2_with fail
  refine HS5.out.mono ?_
  rintro e w6 ⟨rfl, hb6⟩
  have hE6 := HE5.out.step hb6
  have HB6 := Lib.hid (show Below w.heap.size w w6 from HB5.out.trans (hb6.mono HB5.out.size))
  obtain ⟨hgT, _, hcT, _⟩ := hE6.tail
  obtain ⟨hgS, _, hcS, _⟩ := hE6.short
  have hq2 : ((((someAt s.data.toList (bs.take k)).1 : Nat) : Int) < (s.size : Int)) := by
    have := HQ2.out
    rw [show s.data.toList.length = s.size from Array.length_toList] at this
    omega
  have hq3 := HQ3.out
  clear hb6 hE6 hcT0
  generalize (someAt s.data.toList (bs.take k)).1 = n at *
  generalize (someAt s.data.toList (bs.take k)).2 = al at *
  subst hq3
  go_wp2_with fail
  go_ret
  exact ⟨rfl, HB6.out⟩
set_option maxRecDepth 4000 in
set_option maxHeartbeats 1000000 in
theorem cuts_nil (es : Er → Addr) (w : World) (s : ByteArray) (A : Option Addr) (c : Nat) (cells : List Cell) (bs : Bs) (cut : Int) (m : UInt8) (hE : E5 w.heap.size w es) (hs : s.size ≤ 2000000) (hcl : cells.length ≤ 2000000)
    (hcost : cost cells ≤ 100000000) (hnum : ∀ c ∈ cells, c.f < 18446744073709551616 ∧ c.n ≤ 9223372036854775807) (hR : RdC (· < w.heap.size) w A (cells.flatMap cellVs)) (hcut1 : -9223372036854775808 ≤ cut) (hcut2 : cut ≤ 9223372036854775807)
    (h1 : encode s.data.toList cells = .ok bs) (hb0 : bs.length = 0) :
    Calls Tryd.prog 9 #[.agg #[.string s, .slice A cells.length c, .int .i64 cut, .int .u8 m.toNat]] w (OkPost w) := by
  obtain ⟨i0, hi, hz0, hz1, hz2⟩ := info_parts infoU8
  obtain ⟨hkn, hlen, hall⟩ := encode_ok h1
  have hbl := encAll_len _ _ _ hall
  have H1 := Lib.hid h1
  have HM := Lib.hid hnum
  have HT := Lib.hid (dec_tail m h1 hnum)
  have HZ00 := Lib.hid hb0
  clear hb0
  clear h1 hnum hkn hlen hall
  go_enter Tryd.func9, Tryd.ntmps9
  go_wp2_with fail
  go_quiet (fail)
  go_wp2_with fail
  have hbq : Below w.heap.size w ((w.alloc (.cells #[.string s, .slice A cells.length c, .int .i64 cut, .int .u8 m.toNat] 58)).drewN nq) := below_drewN ((Below.refl _ _).alloc (Nat.le_refl _) _) _
  generalize (w.alloc (.cells #[.string s, .slice A cells.length c, .int .i64 cut, .int .u8 m.toNat] 58)).drewN nq = w9 at *
  have HE9 := Lib.hid (hE.step hbq)
  have HB9 := Lib.hid hbq
  have HR9 := Lib.hid (hR.step hbq)
  clear hbq hE hR
  refine (alive_any es w9 HE9.out).mono ?_
  rintro e w0 ⟨rfl, hb0⟩
  have HE0 := Lib.hid (HE9.out.step hb0)
  have HB0 := Lib.hid (show Below w.heap.size w w0 from HB9.out.trans (hb0.mono HB9.out.size))
  have HR0 := Lib.hid (HR9.out.step hb0)
  clear hb0 HE9 HB9 HR9
  go_wp2_with fail
  have hen := encode_any es w0 s A cells.length c cells rfl HE0.out HR0.out (by unfold maxLen; omega) (by unfold maxLen; omega) (by omega) (fun c hc => (HM.out c hc).2)
  rw [H1.out] at hen
  refine hen.mono ?_
  rintro e w1 ⟨hb1, v1, rfl, hown1⟩
  obtain ⟨A1, c1, rfl, hc1, _⟩ := own_slice hown1
  have HE1 := Lib.hid (HE0.out.step hb1)
  have HB1 := Lib.hid (show Below w.heap.size w w1 from HB0.out.trans (hb1.mono HB0.out.size))
  have hrd1 : RdC (· < w1.heap.size) w1 A1 (bvs bs) := (RdC.of_own hown1).mono (fun _ h => h.2)
  have HR1 := Lib.hid hrd1
  clear hb1 hen HE0 HB0 HR0 hrd1 hown1
  have hz := World.ownsRow_lit (base := w1.heap.size) (e := 5) (size := 1) w1 #[] 0 (Nat.le_refl _) (by simp [maxLen]) (by simp)
  have HZ := Lib.hid hz
  have HA : Below w1.heap.size w1 (w1.alloc (.cells #[] 5)) := (Below.refl _ _).alloc (Nat.le_refl _) _
  have HAl := Lib.hid HA
  clear hz HA
  go_wp2_with (first
    | (at_builtin; refine wpList_appS (ok := fun b => b < w1.heap.size) _ w1.heap.size (.tmp 35) (.tmp 36) 23 5 i0 (.int .u8 0) 1 1 rfl (by rfl) Tryd.underlying23 hi hz0 hz1 hz2 rfl (by omega) (by omega) _ 0 [] (by rfl) HZ.out A1 bs.length c1 (bvs bs) (by rfl) (by simp)
        (HR1.out.below HAl.out) (bvs_one bs) (by omega) (by simp) ?_; intro v1 w2 hown1 hg1; have HB2 := Lib.hid (show Below w1.heap.size w1 w2 from hg1.below HAl.out (by simp) (own_base HZ.out)); have HO1 := Lib.hid hown1; clear hg1 hown1)
    | (at_builtin; refine wpList_app1 w1.heap.size _ _ 23 5 i0 (.int .u8 0) 1 rfl (by rfl) Tryd.underlying23 hi hz0 hz1 hz2 rfl (by decide) _ (0 + bs.length) ([] ++ bvs bs) (.int .u8 m.toNat) (by rfl) _ rfl (by rfl) HO1.out rfl (by omega) (by exact HB2.out.size) ?_; intro v2 w3 hown2 hg2))
  have hb3w : Below w1.heap.size w1 w3 := hg2.below HB2.out HB2.out.size (own_base HO1.out)
  have hown3 : w3.ownsRow w1.heap.size 5 1 v2 (bs ++ [m]).length (bvs (bs ++ [m])) := by
    rw [bvs_append, List.length_append]
    simpa [bvs, bv] using hown2
  obtain ⟨A3, c3, rfl, hc3, _⟩ := own_slice hown3
  have hR3 : RdC (· < w3.heap.size) w3 A3 (bvs (bs ++ [m])) := (RdC.of_own hown3).mono (fun _ h => h.2)
  have hE3 : E5 w3.heap.size w3 es := HE1.out.step hb3w
  have HR13 := Lib.hid (HR1.out.step hb3w)
  have HB3 := Lib.hid (show Below w.heap.size w w3 from HB1.out.trans (hb3w.mono HB1.out.size))
  have hd3 := decode_any es w3 s A3 (bs ++ [m]).length c3 (bs ++ [m]) rfl hE3 hR3 (by omega) hc3 (by rw [List.length_append, List.length_singleton]; omega)
  rw [HT.out] at hd3
  refine hd3.mono ?_
  rintro e w4 ⟨hb4, rfl⟩
  have HE4 := Lib.hid (hE3.step hb4)
  have HB4 := Lib.hid (show Below w.heap.size w w4 from HB3.out.trans (hb4.mono HB3.out.size))
  have HR4 := Lib.hid (HR13.out.step hb4)
  clear hb3w hown2 hg2 hown3 hc3 hR3 hE3 hd3 hb4 HB3 HR13 HB2 HO1 HZ HAl HE1 HB1 HR1
  have L0 : ((bs.length : Int) = 0) := by have := HZ00.out; omega
  have heq := run_err_same
  obtain ⟨hgT0, _, hcT0, _⟩ := HE4.out.tail
  go_wp2_with fail
  go_ret
  exact ⟨rfl, HB4.out⟩
set_option maxRecDepth 4000 in
set_option maxHeartbeats 1000000 in
theorem cuts_err (es : Er → Addr) (w : World) (s : ByteArray) (A : Option Addr) (c : Nat) (cells : List Cell) (er : Er) (cut : Int) (m : UInt8) (hE : E5 w.heap.size w es) (hs : s.size ≤ 2000000) (hcl : cells.length ≤ 2000000)
    (hcost : cost cells ≤ 100000000) (hnum : ∀ c ∈ cells, c.f < 18446744073709551616 ∧ c.n ≤ 9223372036854775807) (hR : RdC (· < w.heap.size) w A (cells.flatMap cellVs)) (hcut1 : -9223372036854775808 ≤ cut) (hcut2 : cut ≤ 9223372036854775807)
    (h1 : encode s.data.toList cells = .error er) :
    Calls Tryd.prog 9 #[.agg #[.string s, .slice A cells.length c, .int .i64 cut, .int .u8 m.toNat]] w (OkPost w) := by
  have H1 := Lib.hid h1
  have HM := Lib.hid hnum
  clear h1 hnum
  go_enter Tryd.func9, Tryd.ntmps9
  go_wp2_with fail
  go_quiet (fail)
  go_wp2_with fail
  have hbq : Below w.heap.size w ((w.alloc (.cells #[.string s, .slice A cells.length c, .int .i64 cut, .int .u8 m.toNat] 58)).drewN nq) := below_drewN ((Below.refl _ _).alloc (Nat.le_refl _) _) _
  generalize (w.alloc (.cells #[.string s, .slice A cells.length c, .int .i64 cut, .int .u8 m.toNat] 58)).drewN nq = w9 at *
  have HE9 := Lib.hid (hE.step hbq)
  have HB9 := Lib.hid hbq
  have HR9 := Lib.hid (hR.step hbq)
  clear hbq hE hR
  refine (alive_any es w9 HE9.out).mono ?_
  rintro e w0 ⟨rfl, hb0⟩
  have HE0 := Lib.hid (HE9.out.step hb0)
  have HB0 := Lib.hid (show Below w.heap.size w w0 from HB9.out.trans (hb0.mono HB9.out.size))
  have HR0 := Lib.hid (HR9.out.step hb0)
  clear hb0 HE9 HB9 HR9
  go_wp2_with fail
  have hen := encode_any es w0 s A cells.length c cells rfl HE0.out HR0.out (by unfold maxLen; omega) (by unfold maxLen; omega) (by omega) (fun c hc => (HM.out c hc).2)
  rw [H1.out] at hen
  refine hen.mono ?_
  rintro e w1 ⟨hb1, rfl⟩
  have HB1 := Lib.hid (show Below w.heap.size w w1 from HB0.out.trans (hb1.mono HB0.out.size))
  clear hb1 hen HE0 HB0 HR0
  go_wp2
  go_ret
  exact ⟨rfl, HB1.out⟩
theorem cuts_walk (es : Er → Addr) (w : World) (s : ByteArray) (A : Option Addr) (n c : Nat) (cells : List Cell) (cut : Int) (m : UInt8) (hE : E5 w.heap.size w es) (hs : s.size ≤ 2000000) (hn : n = cells.length) (hcl : cells.length ≤ 2000000)
    (hcost : cost cells ≤ 100000000) (hnum : ∀ c ∈ cells, c.f < 18446744073709551616 ∧ c.n ≤ 9223372036854775807) (hR : RdC (· < w.heap.size) w A (cells.flatMap cellVs)) (hcut1 : -9223372036854775808 ≤ cut) (hcut2 : cut ≤ 9223372036854775807) :
    Calls Tryd.prog 9 #[.agg #[.string s, .slice A n c, .int .i64 cut, .int .u8 m.toNat]] w (OkPost w) := by
  subst hn
  cases h1 : encode s.data.toList cells with
  | error er => exact cuts_err es w s A c cells er cut m hE hs hcl hcost hnum hR hcut1 hcut2 h1
  | ok bs =>
    rcases Nat.eq_zero_or_pos bs.length with h0 | h0
    · exact cuts_nil es w s A c cells bs cut m hE hs hcl hcost hnum hR hcut1 hcut2 h1 h0
    · exact cuts_ok es w s A c cells bs cut m hE hs hcl hcost hnum hR hcut1 hcut2 h1 h0
end Go.Proofs.YtkencpfmbcjppaaDoor
