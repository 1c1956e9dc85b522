/- Walk of the statement FrameLengths. -/
import Derived.Test.YtpekagkhgegefaaDoorVl
set_option linter.unusedVariables false
set_option linter.unusedSimpArgs false
set_option linter.unnecessarySimpa false
namespace Go.Proofs.YtpekagkhgegefaaDoor
open Go.RowKit
attribute [local go_sem] run_store_flt

theorem three {l : Bs} (h : 3 ≤ l.length) : ∃ a b c r, l = a :: b :: c :: r := by
  match l, h with
  | a :: b :: c :: r, _ => exact ⟨a, b, c, r, rfl⟩
theorem put_front {f : Fr} (h : checkF f = true) : ∃ (x0 x1 k2 : UInt8) (r : Bs), putF f = x0 :: x1 :: k2 :: r ∧ (putF f).length = 6 + 256 * x0.toNat + x1.toNat ∧ (k2.toNat : Int) = f.kind := by
  have hbl := body_len h
  have hpl := put_len f
  have hn := put_num h
  have hk := put_kind h
  obtain ⟨x0, x1, k2, r, hP⟩ := three (show 3 ≤ (putF f).length by omega)
  refine ⟨x0, x1, k2, r, hP, ?_, ?_⟩
  · rw [hP] at hn
    rw [hpl, ← hn]
    simp [num]
    omega
  · rw [hP] at hk
    exact hk
set_option maxRecDepth 8000 in
set_option maxHeartbeats 6400000 in
theorem lengths_walk (es : Er → Addr) (w : World) (f : Fr) (A M : Option Addr) (c mc : Nat) (more : Bs) (hE : GEnv w es) (hl : f.lens) (hA : RdC (· < w.heap.size) w A (bvs f.bytes)) (hM : RdC (· < w.heap.size) w M (bvs more)) (hml : more.length ≤ 9223372036854775807) :
    Calls Tryd.prog 8 #[frV f A c, .slice M more.length mc] w (OkPost w) := by
  obtain ⟨w1, hw1, hb1, hs1, hf1⟩ := box_world w f A c
  have hal : Calls Tryd.prog 14 #[] (w.alloc (Obj.cells (frCs f A c) 25)) (OkPost w1) := by rw [← hw1]; exact alive05 es w1 (hE.step hb1).fenv
  have HAl := Lib.hid hal
  have HB1 := Lib.hid hb1
  have HS1 := Lib.hid hs1
  have HF1 := Lib.hid hf1
  have HE := Lib.hid hE
  have HA := Lib.hid hA
  have HM := Lib.hid hM
  have HLn := Lib.hid hl
  have hee := run_err_same
  clear hw1 hb1 hal hE hA hM hl hs1 hf1
  unfold frV
  go_enter Tryd.func8, Tryd.ntmps8
  go_wp2_with fail
  refine HAl.out.mono ?_
  rintro e w2 ⟨rfl, hb2⟩
  have HB2 := Lib.hid (below_on HB1.out hb2)
  have HF2 := Lib.hid (HF1.out.on (by rw [HS1.out]; omega) hb2)
  have hz2 : w.heap.size + 1 ≤ w2.heap.size := by rw [← HS1.out]; exact hb2.size
  have hp := putF_any es f A c w2 (HE.out.step HB2.out).fenv HLn.out (HA.out.step HB2.out)
  obtain ⟨c0, c1, c2, c3, c4, c5, c6, c7, c8, c9⟩ := HF2.out
  clear hb2
  cases hc : checkF f with
  | false =>
    have hp2 := hp.mono fun e w' h => h.er hc
    have HP := Lib.hid hp2
    clear hp hp2 hc
    unfold frV at HP
    go_wp2_with fail
    refine HP.out.mono ?_
    rintro e w3 ⟨rfl, hb3⟩
    have HB3 := Lib.hid (below_on HB2.out hb3)
    have he := ((HE.out.step HB3.out).frame).at
    unfold errV at he
    clear hb3 c0 c1 c2 c3 c4 c5 c6 c7 c8 c9
    unfold errV
    go_wp2_with fail
    go_ret
    exact ⟨rfl, HB3.out⟩
  | true =>
    have hp2 := hp.mono fun e w' h => h.ok hc
    have hbl := body_len hc
    have hpl := put_len f
    obtain ⟨y0, y1, y2, yr, hP, hsum, hkd⟩ := put_front hc
    have hless := get_less hc
    have hmor := get_more hc
    generalize putF f = P at *
    have hp7 : 7 ≤ P.length := by omega
    have hp6 : P.length ≤ 607 := by omega
    have HP := Lib.hid hp2
    have HLess := Lib.hid hless
    have HMor := Lib.hid hmor
    have HC := Lib.hid hc
    have HPe := Lib.hid hP
    obtain ⟨_, _, _, _, _, hk1, hk17⟩ := body_ok hc
    clear hp hp2 hc hbl hpl hless hmor hP
    unfold frV at HP
    go_wp2_with fail
    refine HP.out.mono ?_
    rintro e w3 ⟨hb3, B, cb, rfl, hcb, hob⟩
    have HB3 := Lib.hid (below_on HB2.out hb3)
    have HF3 := Lib.hid (HF2.out.on (by omega) hb3)
    have HOb := Lib.hid hob
    have hrb := RdC.of_own hob
    have HRb := Lib.hid hrb
    obtain ⟨bd, rfl, hbk, hcc⟩ := hrb (by intro e; have : P = [] := List.map_eq_nil_iff.1 e; subst this; simp at hp7)
    have a0 := hcc 0 (bv y0) (by rw [HPe.out]; rfl)
    have a1 := hcc 1 (bv y1) (by rw [HPe.out]; rfl)
    have a2 := hcc 2 (bv y2) (by rw [HPe.out]; rfl)
    rw [show bd.add 0 = bd by unfold Addr.add; simp] at a0
    rw [show bd.add 1 = ⟨bd.block, bd.off + 1, none⟩ by unfold Addr.add; simp] at a1
    rw [show bd.add 2 = ⟨bd.block, bd.off + 2, none⟩ by unfold Addr.add; simp] at a2
    unfold bv at a0 a1 a2
    rw [hkd] at a2
    have hx0 := y0.toNat_lt
    have hx1 := y1.toNat_lt
    generalize y0.toNat = x0 at *
    generalize y1.toNat = x1 at *
    have i0 : (0 : Int) < (P.length : Int) := by omega
    have i1 : (1 : Int) < (P.length : Int) := by omega
    have i2 : (2 : Int) < (P.length : Int) := by omega
    have j0 : IntKind.i64.wrap (256 * (x0 : Int)) = 256 * (x0 : Int) := IntWalk.i64_in _ (by omega)
    have j1 : IntKind.i64.wrap (6 + 256 * (x0 : Int)) = 6 + 256 * (x0 : Int) := IntWalk.i64_in _ (by omega)
    have j2 : IntKind.i64.wrap (6 + 256 * (x0 : Int) + (x1 : Int)) = 6 + 256 * (x0 : Int) + (x1 : Int) := IntWalk.i64_in _ (by omega)
    have hne : ((P.length : Int) != 6 + 256 * (x0 : Int) + (x1 : Int)) = false := by rw [bne_eq_false_iff_eq]; omega
    have HSum := Lib.hid hsum
    have HZ3 := Lib.hid (show w.heap.size + 1 ≤ w3.heap.size by have := hb3.size; omega)
    clear hsum hkd hcc hb3 hob c0 c1 c2 c3 c4 c5 c6 c7 c8 c9
    obtain ⟨c0, c1, c2, c3, c4, c5, c6, c7, c8, c9⟩ := HF3.out
    clear c1 c2 c3 c4 c5 c6 c7 c8 c9
    go_wp2_with fail
    go_quiet (fail)
    obtain ⟨w4, hw4⟩ : ∃ W, W = w3.drewN nq := ⟨_, rfl⟩
    have hb34 : Below w3.heap.size w3 w4 := by rw [hw4]; exact below_drewN (Below.refl _ _) _
    have HB4 := Lib.hid (below_on HB3.out hb34)
    have HO4 := Lib.hid (own_below HOb.out hb34)
    have hz4 : w3.heap.size ≤ w4.heap.size := hb34.size
    rw [← hw4]
    clear hw4 hb34 j0 j1 j2 hne a0 a1 a2 c0
    by_cases hm0 : more.length = 0
    · have q0 : ((more.length : Int) == 0) = true := by rw [beq_iff_eq]; omega
      go_wp2_with fail
      go_ret
      exact ⟨rfl, HB4.out⟩
    · have q0 : ((more.length : Int) == 0) = false := by rw [beq_eq_false_iff_ne]; omega
      by_cases hm2 : 2000 < more.length
      · have q1 : (2000 : Int) < (more.length : Int) := by omega
        go_wp2_with fail
        go_ret
        exact ⟨rfl, HB4.out⟩
      · have q1 : ¬ (2000 : Int) < (more.length : Int) := by omega
        obtain ⟨i0', hi, hz0, hz1, hz2'⟩ := info_parts infoU8
        have hown0 : (w4.alloc (Obj.cells #[] 5)).ownsRow w4.heap.size 5 1 (.slice (some ⟨w4.heap.size, 0, none⟩) 0 0) 0 [] := World.ownsRow_lit w4 #[] 0 (Nat.le_refl _) (by unfold maxLen; omega) rfl
        have HO0 := Lib.hid hown0
        have HRP := Lib.hid (((RdC.of_own HO4.out).mono (fun b hb => hb.2)).step (below_box w4 (Obj.cells #[] 5)))
        have HM4 := Lib.hid (HM.out.step HB4.out)
        have HP4 := Lib.hid ((RdC.of_own HO4.out).mono (fun b hb => hb.2))
        clear hown0
        go_wp2_with (first
          | (at_builtin; refine wpList_appS (ok := fun b => b < (w4.alloc (Obj.cells #[] 5)).heap.size) _ w4.heap.size (.tmp 60) (.tmp 61) 23 5 i0' (.int .u8 0) 1 1 rfl (by rfl) Tryd.underlying23 hi hz0 hz1 hz2' rfl (by omega) (by omega) _ 0 [] (by rfl) HO0.out (some bd) P.length cb (bvs P) (by rfl) (by simp) HRP.out (bvs_one _) (by omega) (by simp) ?_; intro v5 w5 hown5 hg5; have HO5 := Lib.hid hown5; have HB45 := Lib.hid (hg5.below (below_box w4 _) (by simp) (own_base HO0.out)); clear hown5 hg5)
          | (at_builtin; refine wpList_appS (ok := fun b => b < w5.heap.size) _ w4.heap.size (.tmp 62) (.tmp 63) 23 5 i0' (.int .u8 0) 1 1 rfl (by rfl) Tryd.underlying23 hi hz0 hz1 hz2' rfl (by omega) (by omega) _ (0 + P.length) ([] ++ bvs P) (by rfl) HO5.out M more.length mc (bvs more) (by rfl) (by simp) (HM4.out.step HB45.out) (bvs_one _) (by omega) HB45.out.size ?_; intro v6 w6 hown6 hg6; have HO6 := Lib.hid hown6; have HB46 := Lib.hid (hg6.below HB45.out HB45.out.size (own_base HO5.out)); clear hown6 hg6))
        obtain ⟨A6, c6, hv6, hc6, _⟩ := own_slice HO6.out
        subst hv6
        have hmne : more ≠ [] := fun e => hm0 (by rw [e]; rfl)
        have HB6 := Lib.hid (below_on HB4.out HB46.out)
        have hg6 := (getF_any es w6 A6 (0 + P.length + more.length) c6 (P ++ more) (by simp) (HE.out.step HB6.out) (by have := (RdC.of_own HO6.out).mono (fun b hb => hb.2); rw [bvs_append]; simpa using this) (by simp; omega) (by simp; omega)).mono fun e w' h => h.er (HMor.out more hmne)
        have HG6 := Lib.hid hg6
        clear hg6 hmne
        refine HG6.out.mono ?_
        rintro e w7 ⟨rfl, hb7⟩
        have HB47 := Lib.hid (below_on HB46.out hb7)
        obtain ⟨w8, hw8⟩ : ∃ W, W = w7.alloc (Obj.cells #[.int .i64 0, .int .i64 0, .int .i64 0, .int .i64 0, .int .i64 0, .int .i64 0, .string ⟨#[]⟩, .string ⟨#[]⟩, .float .f64 0, .slice none 0 0] 25) := ⟨_, rfl⟩
        have hb8 : Below w7.heap.size w7 w8 := by rw [hw8]; exact below_box _ _
        have HB48 := Lib.hid (below_on HB47.out hb8)
        have HB8 := Lib.hid (below_on HB4.out HB48.out)
        have hg8 : Calls Tryd.prog 31 #[.slice (some bd) (P.length - 1) cb] (w7.alloc (Obj.cells #[.int .i64 0, .int .i64 0, .int .i64 0, .int .i64 0, .int .i64 0, .int .i64 0, .string ⟨#[]⟩, .string ⟨#[]⟩, .float .f64 0, .slice none 0 0] 25)) (fun e w' => e = .returned (.tuple #[frV (Fr.of 0) none 0, errV (es .frame)]) ∧ Below w8.heap.size w8 w') := by
          rw [← hw8]
          refine (getF_any es w8 (some bd) (P.length - 1) cb (P.take (P.length - 1)) (by rw [List.length_take]; omega) (HE.out.step HB8.out) ?_ (by rw [List.length_take]; omega) (by rw [List.length_take]; omega)).mono fun e w' h => h.er HLess.out
          rw [bvs_take]
          exact (HP4.out.step HB48.out).take _
        have HG8 := Lib.hid hg8
        have k1 : (0 : Int) ≤ (P.length : Int) - 1 := by omega
        have k2 : (P.length : Int) - 1 ≤ (cb : Int) := by omega
        clear hb7 hb8 hw8 hg8
        simp only [frV, Fr.of, noS, errV, List.length_nil]
        go_wp2_with fail
        refine HG8.out.mono ?_
        rintro e w9 ⟨rfl, hb9⟩
        have HB9 := Lib.hid (below_on HB8.out hb9)
        have he := ((HE.out.step HB9.out).frame).at
        have hgl := ((HE.out.step HB9.out).frame).g_lt
        unfold errV at he
        clear hb9
        simp only [frV, Fr.of, noS, errV, List.length_nil]
        go_wp2_with fail
        go_ret
        exact ⟨rfl, HB9.out.alloc HB9.out.size _⟩
end Go.Proofs.YtpekagkhgegefaaDoor
