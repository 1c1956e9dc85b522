/- Walk of the statement ScanFirst. -/
import Derived.Test.YtpekagkhgegefaaDoorSq
import Derived.Test.YtpekagkhgegefaaDoorSj
import Derived.Deep.CutBlock
set_option linter.unusedVariables false
set_option linter.unusedSimpArgs false
set_option linter.unnecessarySimpa false
namespace Go.Proofs.YtpekagkhgegefaaDoor
open Go.RowKit
attribute [local go_sem] run_store_flt

theorem infoInF : (Tryd.prog.info? 3).map (fun i => (i.zero, i.size, i.bytes)) = some (some (.int .i64 0), 1, 8) := by kernel_rfl
theorem mod_lt (z : Int) (N : Nat) (h : N ≤ 1000000) (h1 : 0 < N) : ∃ K : Nat, wrap64 ((IntKind.u64.wrap z).tmod (N : Int)) = (K : Int) ∧ K < N := by
  have h0 : 0 ≤ IntKind.u64.wrap z := by rw [IntKind.wrap_u64]; omega
  have e1 : (IntKind.u64.wrap z).tmod (N : Int) = IntKind.u64.wrap z % (N : Int) := Int.tmod_eq_emod_of_nonneg h0
  rw [e1]
  generalize IntKind.u64.wrap z = y at *
  have h2 := Int.emod_nonneg y (show (N : Int) ≠ 0 by omega)
  have h3 := Int.emod_lt_of_pos y (show (0 : Int) < (N : Int) by omega)
  generalize y % (N : Int) = q at *
  refine ⟨q.toNat, ?_, by omega⟩
  rw [IntWalk.wrap64_in _ (by omega)]
  omega
/-- What the first loop keeps. -/
def FirstRel (B : Nat) (w0 : World) (bv gv ev : Value) (i : Nat) (gs : List Fr) (wx : World) : Prop :=
  Piles B wx gs (gs.flatMap putF) (startsOf gs) bv gv ev ∧ (∀ f ∈ gs, checkF f = true ∧ f.fits) ∧ gs.length ≤ i ∧ gs.length ≤ 21 ∧ Below B w0 wx
set_option maxRecDepth 8000 in
set_option maxHeartbeats 12000000 in
theorem first_walk (es : Er → Addr) (w : World) (A : Option Addr) (c : Nat) (fs : List Fr) (z y : Int) (hE : GEnv w es) (hR : RdFs w A fs) (hl : ∀ f ∈ fs, f.lens ∧ f.fits) (hc : fs.length ≤ 9223372036854775807) (hz : -9223372036854775808 ≤ z ∧ z ≤ 9223372036854775807) (hy : -9223372036854775808 ≤ y ∧ y ≤ 9223372036854775807) :
    Calls Tryd.prog 13 #[.slice A fs.length c, .int .i64 z, .int .i64 y] w (OkPost w) := by
  have HAl := Lib.hid (alive06 es w hE)
  have HE := Lib.hid hE
  have HR := Lib.hid hR
  have HLs := Lib.hid hl
  have HZ := Lib.hid hz
  have HY := Lib.hid hy
  have hee := run_err_same
  clear hE hR hl hz hy
  go_enter Tryd.func13, Tryd.ntmps13
  go_wp2_with fail
  refine HAl.out.mono ?_
  rintro e w1 ⟨rfl, hb1⟩
  have HB1 := Lib.hid hb1
  have hz1 : w.heap.size ≤ w1.heap.size := hb1.size
  obtain ⟨W3, hW3⟩ : ∃ W, W = ((w1.alloc (Obj.cells #[] 5)).alloc (Obj.cells #[] 25)).alloc (Obj.cells #[] 3) := ⟨_, rfl⟩
  have hP0 : Piles w1.heap.size W3 [] [] [] (.slice (some ⟨w1.heap.size, 0, none⟩) 0 0) (.slice (some ⟨w1.heap.size + 1, 0, none⟩) 0 0) (.slice (some ⟨w1.heap.size + 1 + 1, 0, none⟩) 0 0) := by
    have o1 : (w1.alloc (Obj.cells #[] 5)).ownsRow w1.heap.size 5 1 (.slice (some ⟨w1.heap.size, 0, none⟩) 0 0) 0 [] := World.ownsRow_lit w1 #[] 0 (Nat.le_refl _) (by unfold maxLen; omega) rfl
    have o2 : ((w1.alloc (Obj.cells #[] 5)).alloc (Obj.cells #[] 25)).ownsRow w1.heap.size 25 10 (.slice (some ⟨w1.heap.size + 1, 0, none⟩) 0 0) 0 [] := by
      have h := World.ownsRow_lit (base := w1.heap.size) (e := 25) (size := 10) (w1.alloc (Obj.cells #[] 5)) #[] 0 (by simp) (by unfold maxLen; omega) rfl
      simpa using h
    have o3 : W3.ownsRow w1.heap.size 3 1 (.slice (some ⟨w1.heap.size + 1 + 1, 0, none⟩) 0 0) 0 [] := by
      have h := World.ownsRow_lit (base := w1.heap.size) (e := 3) (size := 1) ((w1.alloc (Obj.cells #[] 5)).alloc (Obj.cells #[] 25)) #[] 0 (by simp; omega) (by unfold maxLen; omega) rfl
      rw [hW3]
      simpa using h
    have b2 := below_box (w1.alloc (Obj.cells #[] 5)) (Obj.cells #[] 25)
    have b3 := below_box ((w1.alloc (Obj.cells #[] 5)).alloc (Obj.cells #[] 25)) (Obj.cells #[] 3)
    refine ⟨?_, ⟨[], ?_, .nil⟩, o3, fun k e => ?_, fun k e => ?_, fun k e => ?_⟩
    · rw [hW3]; exact own_below (own_below o1 b2) b3
    · rw [hW3]; exact own_below o2 b3
    · have h1 : w1.heap.size = k := Option.some.inj e
      exact fun e2 => by have h2 : w1.heap.size + 1 = k := Option.some.inj e2; omega
    · have h1 : w1.heap.size = k := Option.some.inj e
      exact fun e2 => by have h2 : w1.heap.size + 1 + 1 = k := Option.some.inj e2; omega
    · have h1 : w1.heap.size + 1 = k := Option.some.inj e
      exact fun e2 => by have h2 : w1.heap.size + 1 + 1 = k := Option.some.inj e2; omega
  have HP0 := Lib.hid hP0
  have HW3 := Lib.hid hW3.symm
  have HB3 := Lib.hid (show Below w1.heap.size w1 W3 by rw [hW3]; exact (((Below.refl _ _).alloc (Nat.le_refl _) _).alloc (by simp) _).alloc (by simp; omega) _)
  clear hb1 hP0 hW3
  go_wp2_with (rw [HW3.out])
  go_loopw [7, 8, 9, 26] (fun bv gv ev iv wr => ∃ (i : Nat) (gs : List Fr), i ≤ fs.length ∧ iv = .int .i64 i ∧ FirstRel w1.heap.size w1 bv gv ev i gs wr) (fun _ _ _ iv _ => fs.length - (intOf iv).toNat)
  case atStart => exact ⟨0, [], Nat.zero_le _, rfl, HP0.out, fun f hf => absurd hf (by simp), Nat.le_refl _, by simp, HB3.out⟩
  case round =>
    obtain ⟨i, gs, hi, rfl, hP, hok, hg1, hg2, hbel⟩ := hrel
    have HP := Lib.hid hP
    have HOk := Lib.hid hok
    have HBel := Lib.hid hbel
    have hBw := below_on HB1.out hbel
    have HBw := Lib.hid hBw
    have hzr := hbel.size
    by_cases hlt : i < fs.length
    · obtain ⟨ad, A1, c1, rfl, hadb0, hfr0, hr0⟩ := HR.out.at i hlt
      have hadb : ad.block < wr.heap.size := Nat.lt_of_lt_of_le hadb0 hBw.size
      have hfr := hfr0.move (w' := wr) (hBw.block _ (by rw [add_block]; exact hadb0))
      have hr := hr0.below hBw
      have hlf := HLs.out _ (List.getElem_mem hlt)
      generalize fs[i] = f at *
      obtain ⟨w4, hw4⟩ : ∃ W, W = wr.alloc (Obj.cells #[.int .i64 f.kind, .int .i64 f.seq, .int .i64 f.got, .int .i64 f.stream, .int .i64 f.amount, .int .i64 f.code, .string f.who, .string f.name, .float .f64 f.weight, .slice A1 f.bytes.length c1] 25) := ⟨_, rfl⟩
      have hb4 : Below wr.heap.size wr w4 := by rw [hw4]; exact below_box _ _
      have HF4 := Lib.hid (show FrC w4 wr.heap.size f A1 c1 by rw [hw4]; exact FrC.box wr f A1 c1 _)
      have hs4 : w4.heap.size = wr.heap.size + 1 := by rw [hw4]; simp
      have hr4 : RdC (· < w4.heap.size) w4 A1 (bvs f.bytes) := (hr.mono (ok' := (· < wr.heap.size)) (fun k hk => Nat.lt_of_lt_of_le hk hBw.size)).step hb4
      have hput := putF_any es f A1 c1 w4 ((HE.out.step (below_on hBw hb4)).fenv) hlf.1 hr4
      have HPut := Lib.hid hput
      have HB4 := Lib.hid (hbel.trans (hb4.mono hzr))
      have HP4 := Lib.hid (hP.on hzr hb4)
      have HR4 := Lib.hid (hr.move (w' := w4) (fun k hk => hb4.block k (Nat.lt_of_lt_of_le hk hBw.size)))
      have HLf := Lib.hid hlf
      have HW4 := Lib.hid hw4.symm
      obtain ⟨a0, a1, a2, a3, a4, a5, a6, a7, a8, a9⟩ := hfr
      obtain ⟨d0, d1, d2, d3, d4, d5, d6, d7, d8, d9⟩ := HF4.out
      have j0 : (0 : Int) ≤ (i : Int) := by omega
      have j1 : (i : Int) < (fs.length : Int) := by omega
      have j3 : IntKind.i64.wrap ((i : Int) + 1) = (i : Int) + 1 := IntWalk.i64_in _ (by omega)
      have hcb1 : (ad.add (i * 10)).block < wr.heap.size := by rw [add_block]; exact hadb
      have hlt4 : wr.heap.size < w4.heap.size := by omega
      clear hput hw4 hb4 hr hr0 hfr0 hr4 hbel hBw hP hok hlf
      cases hck : checkF f with
      | false =>
        have HPut2 := Lib.hid (HPut.out.mono fun e w' h => h.er hck)
        clear hck HPut
        unfold frV at HPut2
        by_cases h40 : 20 < i
        · have k0 : (20 : Int) < (i : Int) := by omega
          clear h40
          go_wp2_with (rw [HW4.out])
          refine HPut2.out.mono ?_
          rintro e w6 ⟨rfl, hb6⟩
          have HB6 := Lib.hid (HB4.out.trans (hb6.mono HB4.out.size))
          have HP6 := Lib.hid (HP4.out.on HB4.out.size hb6)
          clear hb6 a0 a1 a2 a3 a4 a5 a6 a7 a8 a9 d0 d1 d2 d3 d4 d5 d6 d7 d8 d9
          unfold errV
          go_wp2_with fail
          go_roundw
          case rel => exact ⟨i + 1, gs, by omega, by go_num, HP6.out, HOk.out, by omega, hg2, HB6.out⟩
          case measure => simp [intOf]; omega
        · have k0 : ¬ (20 : Int) < (i : Int) := by omega
          clear h40
          go_wp2_with (rw [HW4.out])
          refine HPut2.out.mono ?_
          rintro e w6 ⟨rfl, hb6⟩
          have HB6 := Lib.hid (HB4.out.trans (hb6.mono HB4.out.size))
          have HP6 := Lib.hid (HP4.out.on HB4.out.size hb6)
          clear hb6 a0 a1 a2 a3 a4 a5 a6 a7 a8 a9 d0 d1 d2 d3 d4 d5 d6 d7 d8 d9
          unfold errV
          go_wp2_with fail
          go_roundw
          case rel => exact ⟨i + 1, gs, by omega, by go_num, HP6.out, HOk.out, by omega, hg2, HB6.out⟩
          case measure => simp [intOf]; omega
      | true =>
        have HCk := Lib.hid hck
        have HPut2 := Lib.hid (HPut.out.mono fun e w' h => h.ok hck)
        clear hck HPut
        unfold frV at HPut2
        by_cases h40 : 20 < i
        · have k0 : (20 : Int) < (i : Int) := by omega
          clear h40
          go_wp2_with (rw [HW4.out])
          refine HPut2.out.mono ?_
          rintro e w6 ⟨hb6, PA, cp, rfl, hcp, hop⟩
          have HB6 := Lib.hid (HB4.out.trans (hb6.mono HB4.out.size))
          have HP6 := Lib.hid (HP4.out.on HB4.out.size hb6)
          generalize (putF f).length = pl at *
          clear hb6 hop a0 a1 a2 a3 a4 a5 a6 a7 a8 a9 d0 d1 d2 d3 d4 d5 d6 d7 d8 d9
          go_wp2_with fail
          go_roundw
          case rel => exact ⟨i + 1, gs, by omega, by go_num, HP6.out, HOk.out, by omega, hg2, HB6.out⟩
          case measure => simp [intOf]; omega
        · have k0 : ¬ (20 : Int) < (i : Int) := by omega
          go_wp2_with (rw [HW4.out])
          refine HPut2.out.mono ?_
          rintro e w6 ⟨hb6, PA, cp, rfl, hcp, hop⟩
          have HB6 := Lib.hid (HB4.out.trans (hb6.mono HB4.out.size))
          have hP6 := HP4.out.on HB4.out.size hb6
          have HP6 := Lib.hid hP6
          have hz46 := hb6.size
          have hF6 := HF4.out.on hlt4 hb6
          have hlt6 : wr.heap.size < w6.heap.size := by omega
          have HF6 := Lib.hid hF6
          have HR6 := Lib.hid (HR4.out.move (w' := w6) (fun k hk => hb6.block k (by omega)))
          have HX6 := Lib.hid (RdC.of_own hop)
          have hpl : (putF f).length ≤ 607 := by have := put_len f; have := body_len HCk.out; omega
          have hbl := flat_le gs (fun g hg => (HOk.out g hg).1)
          obtain ⟨Ab, cb, hvb, hcb, _⟩ := own_slice hP6.bytes
          obtain ⟨csg, hog, hfg⟩ := hP6.frames
          obtain ⟨Ag, cg, hvg, hcg, _⟩ := own_slice hog
          obtain ⟨Az, cz, hvz, hcz, _⟩ := own_slice hP6.ints
          subst hvb hvg hvz
          have HOg := Lib.hid hog
          have HFg := Lib.hid hfg
          obtain ⟨b, hb⟩ : ∃ b, b = gs.flatMap putF := ⟨_, rfl⟩
          obtain ⟨x, hx⟩ : ∃ x, x = putF f := ⟨_, rfl⟩
          rw [← hb] at HP6 hbl hcb
          rw [← hx] at HX6 hpl hcp
          rw [← hb, ← hx]
          have HBf := Lib.hid hb
          have HXf := Lib.hid hx
          have hel : (startsOf gs).length = gs.length := startsOf_len gs
          rw [hel] at hcz HP6
          have hz16 : w1.heap.size ≤ w6.heap.size := HB6.out.size
          have HVb := Lib.hid (show ∀ k, (Value.slice Ab (gs.flatMap putF).length cb).ownBlock = some k → k < wr.heap.size from fun k hk => (HP.out.bytes.lt k hk).2)
          rw [← hb] at HVb
          obtain ⟨i0, hi', hz0, hz1', hz2⟩ := info_parts infoU8
          obtain ⟨j0', hj, jz0, jz1, jz2⟩ := info_parts infoFr
          clear h40 hb6 hop hP6 hF6 hog hfg hb hx a0 a1 a2 a3 a4 a5 a6 a7 a8 a9 d0 d1 d2 d3 d4 d5 d6 d7 d8 d9
          have hsl := startsOf_len gs
          have hoz := HP6.out.ints
          rw [hsl] at hoz
          have HOz := Lib.hid hoz
          have HVz := Lib.hid (show ∀ k, (Value.slice Az (startsOf gs).length cz).ownBlock = some k → k < wr.heap.size from fun k hk => (HP.out.ints.lt k hk).2)
          obtain ⟨q0, hq, qz0, qz1, qz2⟩ := info_parts infoInF
          rw [hsl] at HVz
          simp only [hsl]
          clear hoz
          go_upto_region 12 with (at_builtin; refine wpList_app1 (W := w6) w1.heap.size (.tmp 42) (.tmp 45) 70 3 q0 _ 8 (by rfl) (by rfl) Tryd.underlying70 hq qz0 qz1 qz2 rfl (by omega) _ gs.length (izs (startsOf gs)) (.int .i64 (b.length : Nat)) (by rfl) w6.heap.size rfl (by rfl) HOz.out rfl (by omega) (by omega) ?_; intro v7 w7 hown7 hg7; obtain ⟨A7, c7, rfl, _, _⟩ := own_slice hown7)
          rw [← hsl] at hown7
          have hP6z := HP6.out
          obtain ⟨hP7, hB7⟩ := hP6z.intsAt (z := (b.length : Int)) hz16 (by simpa [hsl] using hown7) hg7 (Below.refl _ _)
          have hk7 : ∀ k, k < w6.heap.size → k < wr.heap.size + 1 ∨ w4.heap.size ≤ k → some k ≠ (Value.slice Az gs.length cz).ownBlock → w7.heap[k]? = w6.heap[k]? := fun k hk _ hn => hg7.by_.block k hk hn
          have hz67 := hB7.size
          have HB7 := Lib.hid (HB6.out.trans hB7)
          have HP7 := Lib.hid hP7
          have hz17 : w1.heap.size ≤ w7.heap.size := HB7.out.size
          have hlt7 : wr.heap.size < w7.heap.size := by omega
          have HF7 := Lib.hid (HF6.out.move (hk7 _ hlt6 (.inl (by omega)) (fun e => by have := HVz.out _ e.symm; omega)))
          have HR7 := Lib.hid (HR6.out.move (w' := w7) (fun k hk => hg7.by_.block k (by omega) (fun e => by have := own_base HP6.out.ints k e.symm; omega)))
          have HX7 := Lib.hid ((HX6.out.move (w' := w7) (fun k hk => hg7.by_.block k hk.2 (fun e => by have := HVz.out k e.symm; omega))).mono (ok' := fun k => w4.heap.size ≤ k ∧ k < w7.heap.size) (fun k hk => ⟨hk.1, by omega⟩))
          clear hown7 hg7 hP6z hP7 hB7 hk7 HP6 HF6 HX6 HR6
          obtain ⟨d0, d1, d2, d3, d4, d5, d6, d7, d8, d9⟩ := HF7.out
          go_region_law (first | (refine step_appS (ok := fun k => w4.heap.size ≤ k ∧ k < w7.heap.size) _ w1.heap.size (.tmp 47) (.tmp 48) 23 5 i0 (.int .u8 0) 1 1 (by rfl) (by rfl) Tryd.underlying23 hi' hz0 hz1' hz2 rfl (by omega) (by omega) (.slice Ab b.length cb) b.length (bvs b) (by rfl) (by first | exact own_below HP7.out.bytes (Below.refl w7.heap.size w7).drew | exact own_below HP7.out.bytes ((Below.refl w7.heap.size w7).drew.alloc (by simp) _)) PA x.length cp (bvs x) (by rfl) (by simp) (by first | exact HX7.out.move (fun k hk => (Below.refl w7.heap.size w7).drew.block k hk.2) | exact HX7.out.move (fun k hk => ((Below.refl w7.heap.size w7).drew.alloc (by simp) _).block k hk.2)) (bvs_one _) (by omega) (by simp; omega) ?_; intro v8 w8 hown8 hg8; (obtain ⟨hP8, hB8, hk8⟩ := HP7.out.bytesAt hz17 hown8 hg8 (by first | exact (Below.refl w7.heap.size w7).drew | exact (Below.refl w7.heap.size w7).drew.alloc (by simp) _)); (obtain ⟨A8, c8, rfl, _, _⟩ := own_slice hown8); (obtain ⟨cs8, hog8, hfg8⟩ := hP8.frames); (obtain ⟨e0, e1, e2, e3, e4, e5, e6, e7, e8, e9⟩ := HF7.out.move (hk8 _ hlt7 (fun e => Nat.lt_irrefl _ (HVb.out _ e.symm)))); (have hz78 := hB8.size)) | (refine step_appF w1.heap.size (.tmp 50) (.tmp 52) 45 25 j0' _ 10 112 (by rfl) (by rfl) Tryd.underlying45 hj jz0 jz1 jz2 rfl (by omega) (by omega) (.slice Ag gs.length cg) gs.length cs8 (by rfl) (by first | exact hog8 | exact hog8.alloc _) w8.heap.size [.int .i64 f.kind, .int .i64 f.seq, .int .i64 f.got, .int .i64 f.stream, .int .i64 f.amount, .int .i64 f.code, .string f.who, .string f.name, .float .f64 f.weight, .slice A1 f.bytes.length c1] (by rfl) rfl (by exact heap_alloc_new _ _) (by simp [Value.oneCell']) (by omega) (by first | omega | (simp; omega)) ?_; intro v9 w9 hown9 hg9; have hfin := hP8.framesAt (f := f) (A := A1) (c := c1) (Nat.le_trans hz17 hz78) hfg8 ((HR7.out.mono (ok' := (· < w1.heap.size)) (fun k hk => Nat.lt_of_lt_of_le hk hz1)).move (fun k hk => hk8 k (by omega) (fun e => by have := own_base HP7.out.bytes k e.symm; omega))) hown9 hg9 (by first | exact Below.refl _ _ | exact below_box _ _)) | (refine step_appF w1.heap.size (.tmp 50) (.tmp 52) 45 25 j0' _ 10 112 (by rfl) (by rfl) Tryd.underlying45 hj jz0 jz1 jz2 rfl (by omega) (by omega) (.slice Ag gs.length cg) gs.length cs8 (by rfl) (by first | exact hog8 | exact hog8.alloc _) w7.heap.size [.int .i64 f.kind, .int .i64 f.seq, .int .i64 f.got, .int .i64 f.stream, .int .i64 f.amount, .int .i64 f.code, .string f.who, .string f.name, .float .f64 f.weight, .slice A1 f.bytes.length c1] (by rfl) rfl (by exact (hg8.by_.block w7.heap.size (by simp) (fun e => by have := HVb.out _ e.symm; omega)).trans (heap_alloc_new _ _)) (by simp [Value.oneCell']) (by omega) (by first | omega | (simp; omega)) ?_; intro v9 w9 hown9 hg9; have hfin := hP8.framesAt (f := f) (A := A1) (c := c1) (Nat.le_trans hz17 hz78) hfg8 ((HR7.out.mono (ok' := (· < w1.heap.size)) (fun k hk => Nat.lt_of_lt_of_le hk hz1)).move (fun k hk => hk8 k (by omega) (fun e => by have := own_base HP7.out.bytes k e.symm; omega))) hown9 hg9 (by first | exact Below.refl _ _ | exact below_box _ _)))
          all_goals
            obtain ⟨hP9, hB9f⟩ := hfin
            have hB9 := (HB7.out.trans hB8).trans hB9f
            obtain ⟨A9, c9, hv9, hc9, _⟩ := own_slice hown9
            have hbx : b ++ x = (gs ++ [f]).flatMap putF := by rw [flat_snoc, HBf.out, HXf.out]
            have hez : startsOf gs ++ [(b.length : Int)] = startsOf (gs ++ [f]) := by rw [startsOf_snoc, ← HBf.out]
            rw [hbx, hez] at hP9
            subst hv9
            have HP9 := Lib.hid hP9
            have HB9 := Lib.hid hB9
            clear hP9 hB9 hB9f hbx hez hown8 hg8 hP8 hB8 hk8 hog8 hfg8 hown9 hg9
            go_wp2_with fail
            go_roundw
            case rel => exact ⟨i + 1, gs ++ [f], by omega, by go_num, HP9.out, fun g hg => by
                rcases List.mem_append.1 hg with h | h
                · exact HOk.out g h
                · rw [List.mem_singleton.1 h]; exact ⟨HCk.out, HLf.out.2⟩, by simp; omega, by simp; omega, HB9.out⟩
            case measure => simp [intOf]; omega
    · have j1 : ¬ (i : Int) < (fs.length : Int) := by omega
      by_cases h0 : gs.length = 0
      · have hg0 : gs = [] := List.length_eq_zero_iff.1 h0
        subst hg0
        obtain ⟨_, hog, _⟩ := hP.frames
        obtain ⟨Ag, cg, hvg, hcg, _⟩ := own_slice hog
        subst hvg
        clear hbel hBw hP hok hog HP h0
        go_wp2_with fail
        go_ret
        exact ⟨rfl, HBw.out⟩
      · have hbl := flat_le gs (fun g hg => (hok g hg).1)
        obtain ⟨b, hb⟩ : ∃ b, b = gs.flatMap putF := ⟨_, rfl⟩
        rw [← hb] at hP hbl
        obtain ⟨Ab, cb, hvb, hcb, _⟩ := own_slice hP.bytes
        obtain ⟨csg, hog, hfg⟩ := hP.frames
        obtain ⟨Ag, cg, hvg, hcg, _⟩ := own_slice hog
        obtain ⟨Az, cz, hvz, hcz, _⟩ := own_slice hP.ints
        rw [startsOf_len] at hvz hcz
        subst hvb hvg hvz
        have HP' := Lib.hid hP
        have HBf := Lib.hid hb
        obtain ⟨K, hK, hKb⟩ := mod_lt z gs.length (by omega) (by omega)
        obtain ⟨T, hT, hTb⟩ := mod_lt y 255 (by omega) (by omega)
        have k2 : IntKind.u64.wrap (gs.length : Int) = (gs.length : Int) := u64_nat gs.length (by omega)
        have k3 : ((gs.length : Int) == 0) = false := by rw [beq_eq_false_iff_ne]; omega
        obtain ⟨K1, hK1⟩ : ∃ K1, K1 = K + 1 := ⟨_, rfl⟩
        have k4 : IntKind.i64.wrap ((K : Int) + 1) = (K1 : Int) := by rw [IntWalk.i64_in _ (by omega)]; omega
        have HK1 := Lib.hid hK1
        have k5 : (gs.length : Int) ≠ 0 := by omega
        have hT' : wrap64 ((IntKind.u64.wrap y).tmod 255) = (T : Int) := hT
        have k6 : IntKind.i64.wrap (1 + (T : Int)) = 1 + (T : Int) := IntWalk.i64_in _ (by omega)
        have k7 : IntKind.u8.wrap (1 + (T : Int)) = 1 + (T : Int) := IntWalk.u8_in _ (by omega)
        obtain ⟨E, hE⟩ : ∃ E, E = endE gs (K + 1) := ⟨_, rfl⟩
        have hEle : E ≤ b.length := by
          have h1 := endE_mono gs (show K + 1 ≤ gs.length by omega)
          rw [endE_all, ← hb, ← hE] at h1
          exact h1
        have hE7 : endE gs K + 7 ≤ E := by
          have h1 := endE_succ gs K hKb
          have h2 := put_len gs[K]
          have h3 := body_len (hok _ (List.getElem_mem hKb)).1
          omega
        obtain ⟨J, hJ⟩ : ∃ J, E = J + 1 := ⟨E - 1, by omega⟩
        obtain ⟨g, hg, hgB⟩ : ∃ g, Ab = some ⟨g, 0, none⟩ ∧ w1.heap.size ≤ g := by
          rcases hP.bytes.2 with ⟨_, h1⟩ | ⟨g, cap, cur, h1, h2, _⟩
          · omega
          · injection h1 with h1 _ _
            exact ⟨g, h1, h2⟩
        subst hg
        have hgl : g < wr.heap.size := (hP.bytes.lt g rfl).2
        have hJb : J < b.length := by omega
        have hcell8 : wr.cell? ⟨g, J, none⟩ = some (.int .u8 (b.getD J 0).toNat) := by
          rw [hP.bytes.cellAt J (by omega), bvs_get _ _ hJb, List.getD_eq_getElem?_getD, List.getElem?_eq_getElem hJb]
          rfl
        have hfz8 : wr.frozen? ⟨g, J, none⟩ = false := hP.bytes.frozenAt J
        have hst8 := hP.bytes.stored J (.int .u8 (((b.getD J 0).toNat ^^^ (T + 1) : Nat) : Int))
        have hx256 := (b.getD J 0).toNat_lt
        have hxor0 := xor8 (b.getD J 0).toNat (T + 1) hx256 (by omega)
        have hxlt : (b.getD J 0).toNat ^^^ (T + 1) < 256 := Nat.xor_lt_two_pow (n := 8) hx256 (by omega)
        obtain ⟨C, hC⟩ : ∃ C, C = b.set J (UInt8.ofNat ((b.getD J 0).toNat ^^^ (T + 1))) := ⟨_, rfl⟩
        have hbC : bvs C = (bvs b).set J (.int .u8 (((b.getD J 0).toNat ^^^ (T + 1) : Nat) : Int)) := by
          rw [hC]
          unfold bvs
          rw [List.map_set]
          congr 1
          unfold bv
          rw [UInt8.toNat_ofNat', Nat.mod_eq_of_lt hxlt]
        have hlC : C.length = b.length := by rw [hC, List.length_set]
        have hne : b[J]? ≠ some (UInt8.ofNat ((b.getD J 0).toNat ^^^ (T + 1))) := fun h1 => by
          have h3 : (b.getD J 0) = b[J] := by rw [List.getD_eq_getElem?_getD, List.getElem?_eq_getElem hJb]; rfl
          rw [List.getElem?_eq_getElem hJb, h3] at h1
          have h2 := congrArg UInt8.toNat (Option.some.inj h1)
          rw [h3] at hxlt
          rw [UInt8.toNat_ofNat', Nat.mod_eq_of_lt hxlt] at h2
          have h4 : b[J].toNat ^^^ b[J].toNat = b[J].toNat ^^^ (b[J].toNat ^^^ (T + 1)) := by rw [← h2]
          rw [← Nat.xor_assoc, Nat.xor_self, Nat.zero_xor] at h4
          omega
        have hsc : scanB C = (gs.take K, endE gs K, true) := by
          have h1 : endE gs (K + 1) - 1 = J := by omega
          have h2 := first_one gs hok K hKb (UInt8.ofNat ((b.getD J 0).toNat ^^^ (T + 1))) (by rw [h1, ← hb]; exact hne)
          rw [h1, ← hb, ← hC] at h2
          exact h2
        generalize (b.getD J 0).toNat = x at *
        have hxor : bits .xor .u8 (x : Int) (1 + (T : Int)) = ((x ^^^ (T + 1) : Nat) : Int) := by
          rw [show 1 + (T : Int) = ((T + 1 : Nat) : Int) by omega]
          exact hxor0
        obtain ⟨w9, hw9⟩ : ∃ W, W = wr.setCell ⟨g, J, none⟩ (.int .u8 ((x ^^^ (T + 1) : Nat) : Int)) := ⟨_, rfl⟩
        have hB9 : Below w1.heap.size w1 w9 := by rw [hw9]; exact hbel.setCell (by exact hgB) _
        have hP9 : Piles w1.heap.size w9 gs C (startsOf gs) (.slice (some ⟨g, 0, none⟩) b.length cb) (.slice Ag gs.length cg) (.slice Az gs.length cz) := by
          refine hP.turned (fun k hk => by rw [hw9]; exact heap_setCell_other _ _ _ _ hk) ?_
          rw [hlC, hbC, hw9]
          exact hst8.1
        have HP9 := Lib.hid hP9
        have HB9 := Lib.hid hB9
        have hbw9 := below_on HB1.out hB9
        have HBw9 := Lib.hid hbw9
        have hsp := split_any es w9 (some ⟨g, 0, none⟩) cb C (HE.out.step hbw9) ((RdC.of_own (n := C.length) (by rw [hlC]; have := hP9.bytes; rw [hlC] at this; exact this)).mono (fun k hk => hk.2)) (by omega)
        have hgt : (gs.take K).length = K := by rw [List.length_take]; omega
        have HGt := Lib.hid hgt
        unfold SplitP at hsp
        rw [hsc, hlC] at hsp
        simp only [hgt, if_true] at hsp
        have HSp := Lib.hid hsp
        have HW9 := Lib.hid hw9.symm
        obtain ⟨st, hst, hstb, hstK⟩ := hP.int (startsOf_len gs).symm K (by rw [startsOf_len]; exact hKb)
        subst hst
        have hnext : K + 1 < gs.length → wr.cell? (st.add (K + 1)) = some (.int .i64 (E : Nat)) := fun h1 => by
          obtain ⟨st2, e2, _, h2⟩ := hP.int (startsOf_len gs).symm (K + 1) (by rw [startsOf_len]; exact h1)
          injection e2 with e2
          subst e2
          rw [startsOf_get, ← hE] at h2
          exact h2
        have hlast : ¬ K + 1 < gs.length → E = b.length := fun h1 => by
          have h2 : K + 1 = gs.length := by omega
          rw [hE, h2, endE_all, ← hb]
        have q0 : (0 : Int) ≤ (J : Int) := by omega
        have q1 : (J : Int) < (b.length : Int) := by omega
        have q2 : (0 : Int) ≤ (K1 : Int) := by omega
        have q3 : (0 : Int) ≤ (K : Int) := by omega
        have q4 : (K : Int) < (gs.length : Int) := by omega
        have q5 : (K : Int) ≤ (gs.length : Int) := by omega
        have q6 : (K : Int) ≤ (cg : Int) := by omega
        clear hbel hBw hP hok hb hog hfg HP hE hst8 hxor0 hC hbC hne hsc hP9 hB9 hbw9 hsp hgt hw9 hT
        go_upto_region 18 with fail
        rw [hK]
        clear hK
        by_cases hk1 : K + 1 < gs.length
        · have kc : (K1 : Int) < (gs.length : Int) := by omega
          have hcK := hnext hk1
          rw [← hK1] at hcK
          have kJ : IntKind.i64.wrap ((E : Int) - 1) = (J : Int) := by rw [IntWalk.i64_in _ (by omega)]; omega
          clear hnext hlast hk1 hK1
          go_wp2_with (rw [HW9.out])
          refine HSp.out.mono ?_
          rintro e w10 ⟨hb10, AL, cL, rfl, hcL, hrl⟩
          have hP10 := HP9.out.on HB9.out.size hb10
          have HP10 := Lib.hid hP10
          have HB10 := Lib.hid (below_on HB9.out hb10)
          have hbw10 := below_on HBw9.out hb10
          have HBw10 := Lib.hid hbw10
          have he := ((HE.out.step hbw10).frame).at
          unfold errV at he
          have hsl := samelist_any (gs.take K) (gs.take K) AL Ag cL cg w10 hrl ((hP10.rdF HB10.out.size).takeS K) (by rw [HGt.out]; omega)
          rw [decide_eq_true rfl, HGt.out] at hsl
          have HSl := Lib.hid hsl
          clear hb10 hrl hP10 hbw10 hsl
          unfold errV
          go_wp2_with fail
          refine HSl.out.mono ?_
          rintro e w11 ⟨rfl, hb11⟩
          obtain ⟨st2, e2, hst2, hcell11⟩ := (HP10.out.on HB10.out.size hb11).int (startsOf_len gs).symm K (by rw [startsOf_len]; omega)
          injection e2 with e2
          subst e2
          rw [startsOf_get] at hcell11
          have HB11 := Lib.hid (below_on HBw10.out hb11)
          clear hb11 he
          go_wp2_with fail
          go_ret
          exact ⟨rfl, HB11.out⟩
        · have kc : ¬ (K1 : Int) < (gs.length : Int) := by omega
          have hEb := hlast hk1
          have kJ : IntKind.i64.wrap ((b.length : Int) - 1) = (J : Int) := by rw [IntWalk.i64_in _ (by omega)]; omega
          clear hnext hlast hk1 hK1
          go_wp2_with (rw [HW9.out])
          refine HSp.out.mono ?_
          rintro e w10 ⟨hb10, AL, cL, rfl, hcL, hrl⟩
          have hP10 := HP9.out.on HB9.out.size hb10
          have HP10 := Lib.hid hP10
          have HB10 := Lib.hid (below_on HB9.out hb10)
          have hbw10 := below_on HBw9.out hb10
          have HBw10 := Lib.hid hbw10
          have he := ((HE.out.step hbw10).frame).at
          unfold errV at he
          have hsl := samelist_any (gs.take K) (gs.take K) AL Ag cL cg w10 hrl ((hP10.rdF HB10.out.size).takeS K) (by rw [HGt.out]; omega)
          rw [decide_eq_true rfl, HGt.out] at hsl
          have HSl := Lib.hid hsl
          clear hb10 hrl hP10 hbw10 hsl
          unfold errV
          go_wp2_with fail
          refine HSl.out.mono ?_
          rintro e w11 ⟨rfl, hb11⟩
          obtain ⟨st2, e2, hst2, hcell11⟩ := (HP10.out.on HB10.out.size hb11).int (startsOf_len gs).symm K (by rw [startsOf_len]; omega)
          injection e2 with e2
          subst e2
          rw [startsOf_get] at hcell11
          have HB11 := Lib.hid (below_on HBw10.out hb11)
          clear hb11 he
          go_wp2_with fail
          go_ret
          exact ⟨rfl, HB11.out⟩
end Go.Proofs.YtpekagkhgegefaaDoor
