/- Walk of the statement ScanJoins. -/
import Derived.Test.YtpekagkhgegefaaDoorSq
import Derived.Deep.CutBlock
set_option linter.unusedVariables false
set_option linter.unusedSimpArgs false
set_option linter.unnecessarySimpa false
namespace Go.Proofs.YtpekagkhgegefaaDoor
open Go.RowKit
attribute [local go_sem] run_store_flt

theorem infoIn : (Tryd.prog.info? 3).map (fun i => (i.zero, i.size, i.bytes)) = some (some (.int .i64 0), 1, 8) := by kernel_rfl
theorem cut_mod (z : Int) (N : Nat) (h : N ≤ 1000000) : ∃ K : Nat, wrap64 ((IntKind.u64.wrap z).tmod ((N : Int) + 1)) = (K : Int) ∧ K ≤ N := by
  have h0 : 0 ≤ IntKind.u64.wrap z := by rw [IntKind.wrap_u64]; omega
  have h1 : (IntKind.u64.wrap z).tmod ((N : Int) + 1) = IntKind.u64.wrap z % ((N : Int) + 1) := Int.tmod_eq_emod_of_nonneg h0
  rw [h1]
  generalize IntKind.u64.wrap z = y at *
  have h2 := Int.emod_nonneg y (show ((N : Int) + 1) ≠ 0 by omega)
  have h3 := Int.emod_lt_of_pos y (show (0 : Int) < (N : Int) + 1 by omega)
  generalize y % ((N : Int) + 1) = q at *
  refine ⟨q.toNat, ?_, by omega⟩
  rw [IntWalk.wrap64_in _ (by omega)]
  omega
/-- What the first loop keeps. -/
def JoinRel (B : Nat) (w0 : World) (bv gv ev : Value) (i : Nat) (gs : List Fr) (wx : World) : Prop :=
  Piles B wx gs (gs.flatMap putF) (endsOf gs) bv gv ev ∧ (∀ f ∈ gs, checkF f = true ∧ f.fits) ∧ gs.length ≤ i ∧ gs.length ≤ 41 ∧ Below B w0 wx
set_option maxRecDepth 8000 in
set_option maxHeartbeats 12000000 in
theorem joins_walk (es : Er → Addr) (w : World) (A : Option Addr) (c : Nat) (fs : List Fr) (z : Int) (hE : GEnv w es) (hR : RdFs w A fs) (hl : ∀ f ∈ fs, f.lens ∧ f.fits) (hc : fs.length ≤ 9223372036854775807) (hz : -9223372036854775808 ≤ z ∧ z ≤ 9223372036854775807) :
    Calls Tryd.prog 10 #[.slice A fs.length c, .int .i64 z] w (OkPost w) := by
  have HAl := Lib.hid (alive06 es w hE)
  have HE := Lib.hid hE
  have HR := Lib.hid hR
  have HLs := Lib.hid hl
  have HZ := Lib.hid hz
  clear hE hR hl hz
  go_enter Tryd.func10, Tryd.ntmps10
  go_wp2_with fail
  refine HAl.out.mono ?_
  rintro e w1 ⟨rfl, hb1⟩
  have HB1 := Lib.hid hb1
  have hz1 : w.heap.size ≤ w1.heap.size := hb1.size
  obtain ⟨W3, hW3⟩ : ∃ W, W = ((w1.alloc (Obj.cells #[] 5)).alloc (Obj.cells #[] 25)).alloc (Obj.cells #[] 3) := ⟨_, rfl⟩
  have hP0 : Piles w1.heap.size W3 [] [] [] (.slice (some ⟨w1.heap.size, 0, none⟩) 0 0) (.slice (some ⟨w1.heap.size + 1, 0, none⟩) 0 0) (.slice (some ⟨w1.heap.size + 1 + 1, 0, none⟩) 0 0) := by
    have o1 : (w1.alloc (Obj.cells #[] 5)).ownsRow w1.heap.size 5 1 (.slice (some ⟨w1.heap.size, 0, none⟩) 0 0) 0 [] := World.ownsRow_lit w1 #[] 0 (Nat.le_refl _) (by unfold maxLen; omega) rfl
    have o2 : ((w1.alloc (Obj.cells #[] 5)).alloc (Obj.cells #[] 25)).ownsRow w1.heap.size 25 10 (.slice (some ⟨w1.heap.size + 1, 0, none⟩) 0 0) 0 [] := by
      have h := World.ownsRow_lit (base := w1.heap.size) (e := 25) (size := 10) (w1.alloc (Obj.cells #[] 5)) #[] 0 (by simp) (by unfold maxLen; omega) rfl
      simpa using h
    have o3 : W3.ownsRow w1.heap.size 3 1 (.slice (some ⟨w1.heap.size + 1 + 1, 0, none⟩) 0 0) 0 [] := by
      have h := World.ownsRow_lit (base := w1.heap.size) (e := 3) (size := 1) ((w1.alloc (Obj.cells #[] 5)).alloc (Obj.cells #[] 25)) #[] 0 (by simp; omega) (by unfold maxLen; omega) rfl
      rw [hW3]
      simpa using h
    have b2 := below_box (w1.alloc (Obj.cells #[] 5)) (Obj.cells #[] 25)
    have b3 := below_box ((w1.alloc (Obj.cells #[] 5)).alloc (Obj.cells #[] 25)) (Obj.cells #[] 3)
    refine ⟨?_, ⟨[], ?_, .nil⟩, o3, fun k e => ?_, fun k e => ?_, fun k e => ?_⟩
    · rw [hW3]; exact own_below (own_below o1 b2) b3
    · rw [hW3]; exact own_below o2 b3
    · have h1 : w1.heap.size = k := Option.some.inj e
      exact fun e2 => by have h2 : w1.heap.size + 1 = k := Option.some.inj e2; omega
    · have h1 : w1.heap.size = k := Option.some.inj e
      exact fun e2 => by have h2 : w1.heap.size + 1 + 1 = k := Option.some.inj e2; omega
    · have h1 : w1.heap.size + 1 = k := Option.some.inj e
      exact fun e2 => by have h2 : w1.heap.size + 1 + 1 = k := Option.some.inj e2; omega
  have HP0 := Lib.hid hP0
  have HW3 := Lib.hid hW3.symm
  have HB3 := Lib.hid (show Below w1.heap.size w1 W3 by rw [hW3]; exact (((Below.refl _ _).alloc (Nat.le_refl _) _).alloc (by simp) _).alloc (by simp; omega) _)
  clear hb1 hP0 hW3
  go_wp2_with (rw [HW3.out])
  go_loopw [5, 6, 7, 26] (fun bv gv ev iv wr => ∃ (i : Nat) (gs : List Fr), i ≤ fs.length ∧ iv = .int .i64 i ∧ JoinRel w1.heap.size w1 bv gv ev i gs wr) (fun _ _ _ iv _ => fs.length - (intOf iv).toNat)
  case atStart => exact ⟨0, [], Nat.zero_le _, rfl, HP0.out, fun f hf => absurd hf (by simp), Nat.le_refl _, by simp, HB3.out⟩
  case round =>
    obtain ⟨i, gs, hi, rfl, hP, hok, hg1, hg2, hbel⟩ := hrel
    have HP := Lib.hid hP
    have HOk := Lib.hid hok
    have HBel := Lib.hid hbel
    have hBw := below_on HB1.out hbel
    have HBw := Lib.hid hBw
    have hzr := hbel.size
    by_cases hlt : i < fs.length
    · obtain ⟨ad, A1, c1, rfl, hadb0, hfr0, hr0⟩ := HR.out.at i hlt
      have hadb : ad.block < wr.heap.size := Nat.lt_of_lt_of_le hadb0 hBw.size
      have hfr := hfr0.move (w' := wr) (hBw.block _ (by rw [add_block]; exact hadb0))
      have hr := hr0.below hBw
      have hlf := HLs.out _ (List.getElem_mem hlt)
      generalize fs[i] = f at *
      obtain ⟨w4, hw4⟩ : ∃ W, W = wr.alloc (Obj.cells #[.int .i64 f.kind, .int .i64 f.seq, .int .i64 f.got, .int .i64 f.stream, .int .i64 f.amount, .int .i64 f.code, .string f.who, .string f.name, .float .f64 f.weight, .slice A1 f.bytes.length c1] 25) := ⟨_, rfl⟩
      have hb4 : Below wr.heap.size wr w4 := by rw [hw4]; exact below_box _ _
      have HF4 := Lib.hid (show FrC w4 wr.heap.size f A1 c1 by rw [hw4]; exact FrC.box wr f A1 c1 _)
      have hs4 : w4.heap.size = wr.heap.size + 1 := by rw [hw4]; simp
      have hr4 : RdC (· < w4.heap.size) w4 A1 (bvs f.bytes) := (hr.mono (ok' := (· < wr.heap.size)) (fun k hk => Nat.lt_of_lt_of_le hk hBw.size)).step hb4
      have hput := putF_any es f A1 c1 w4 ((HE.out.step (below_on hBw hb4)).fenv) hlf.1 hr4
      have HPut := Lib.hid hput
      have HB4 := Lib.hid (hbel.trans (hb4.mono hzr))
      have HP4 := Lib.hid (hP.on hzr hb4)
      have HR4 := Lib.hid (hr.move (w' := w4) (fun k hk => hb4.block k (Nat.lt_of_lt_of_le hk hBw.size)))
      have HLf := Lib.hid hlf
      have HW4 := Lib.hid hw4.symm
      obtain ⟨a0, a1, a2, a3, a4, a5, a6, a7, a8, a9⟩ := hfr
      obtain ⟨d0, d1, d2, d3, d4, d5, d6, d7, d8, d9⟩ := HF4.out
      have j0 : (0 : Int) ≤ (i : Int) := by omega
      have j1 : (i : Int) < (fs.length : Int) := by omega
      have j3 : IntKind.i64.wrap ((i : Int) + 1) = (i : Int) + 1 := IntWalk.i64_in _ (by omega)
      have hcb1 : (ad.add (i * 10)).block < wr.heap.size := by rw [add_block]; exact hadb
      have hlt4 : wr.heap.size < w4.heap.size := by omega
      clear hput hw4 hb4 hr hr0 hfr0 hr4 hbel hBw hP hok hlf
      cases hck : checkF f with
      | false =>
        have HPut2 := Lib.hid (HPut.out.mono fun e w' h => h.er hck)
        clear hck HPut
        unfold frV at HPut2
        by_cases h40 : 40 < i
        · have k0 : (40 : Int) < (i : Int) := by omega
          clear h40
          go_wp2_with (rw [HW4.out])
          refine HPut2.out.mono ?_
          rintro e w6 ⟨rfl, hb6⟩
          have HB6 := Lib.hid (HB4.out.trans (hb6.mono HB4.out.size))
          have HP6 := Lib.hid (HP4.out.on HB4.out.size hb6)
          clear hb6 a0 a1 a2 a3 a4 a5 a6 a7 a8 a9 d0 d1 d2 d3 d4 d5 d6 d7 d8 d9
          unfold errV
          go_wp2_with fail
          go_roundw
          case rel => exact ⟨i + 1, gs, by omega, by go_num, HP6.out, HOk.out, by omega, hg2, HB6.out⟩
          case measure => simp [intOf]; omega
        · have k0 : ¬ (40 : Int) < (i : Int) := by omega
          clear h40
          go_wp2_with (rw [HW4.out])
          refine HPut2.out.mono ?_
          rintro e w6 ⟨rfl, hb6⟩
          have HB6 := Lib.hid (HB4.out.trans (hb6.mono HB4.out.size))
          have HP6 := Lib.hid (HP4.out.on HB4.out.size hb6)
          clear hb6 a0 a1 a2 a3 a4 a5 a6 a7 a8 a9 d0 d1 d2 d3 d4 d5 d6 d7 d8 d9
          unfold errV
          go_wp2_with fail
          go_roundw
          case rel => exact ⟨i + 1, gs, by omega, by go_num, HP6.out, HOk.out, by omega, hg2, HB6.out⟩
          case measure => simp [intOf]; omega
      | true =>
        have HCk := Lib.hid hck
        have HPut2 := Lib.hid (HPut.out.mono fun e w' h => h.ok hck)
        clear hck HPut
        unfold frV at HPut2
        by_cases h40 : 40 < i
        · have k0 : (40 : Int) < (i : Int) := by omega
          clear h40
          go_wp2_with (rw [HW4.out])
          refine HPut2.out.mono ?_
          rintro e w6 ⟨hb6, PA, cp, rfl, hcp, hop⟩
          have HB6 := Lib.hid (HB4.out.trans (hb6.mono HB4.out.size))
          have HP6 := Lib.hid (HP4.out.on HB4.out.size hb6)
          generalize (putF f).length = pl at *
          clear hb6 hop a0 a1 a2 a3 a4 a5 a6 a7 a8 a9 d0 d1 d2 d3 d4 d5 d6 d7 d8 d9
          go_wp2_with fail
          go_roundw
          case rel => exact ⟨i + 1, gs, by omega, by go_num, HP6.out, HOk.out, by omega, hg2, HB6.out⟩
          case measure => simp [intOf]; omega
        · have k0 : ¬ (40 : Int) < (i : Int) := by omega
          go_wp2_with (rw [HW4.out])
          refine HPut2.out.mono ?_
          rintro e w6 ⟨hb6, PA, cp, rfl, hcp, hop⟩
          have HB6 := Lib.hid (HB4.out.trans (hb6.mono HB4.out.size))
          have hP6 := HP4.out.on HB4.out.size hb6
          have HP6 := Lib.hid hP6
          have hz46 := hb6.size
          have hF6 := HF4.out.on hlt4 hb6
          have hlt6 : wr.heap.size < w6.heap.size := by omega
          have HF6 := Lib.hid hF6
          have HR6 := Lib.hid (HR4.out.move (w' := w6) (fun k hk => hb6.block k (by omega)))
          have HX6 := Lib.hid (RdC.of_own hop)
          have hpl : (putF f).length ≤ 607 := by have := put_len f; have := body_len HCk.out; omega
          have hbl := flat_le gs (fun g hg => (HOk.out g hg).1)
          obtain ⟨Ab, cb, hvb, hcb, _⟩ := own_slice hP6.bytes
          obtain ⟨csg, hog, hfg⟩ := hP6.frames
          obtain ⟨Ag, cg, hvg, hcg, _⟩ := own_slice hog
          obtain ⟨Az, cz, hvz, hcz, _⟩ := own_slice hP6.ints
          subst hvb hvg hvz
          have HOg := Lib.hid hog
          have HFg := Lib.hid hfg
          obtain ⟨b, hb⟩ : ∃ b, b = gs.flatMap putF := ⟨_, rfl⟩
          obtain ⟨x, hx⟩ : ∃ x, x = putF f := ⟨_, rfl⟩
          rw [← hb] at HP6 hbl hcb
          rw [← hx] at HX6 hpl hcp
          rw [← hb, ← hx]
          have HBf := Lib.hid hb
          have HXf := Lib.hid hx
          have hel : (endsOf gs).length = gs.length := endsOf_len gs
          rw [hel] at hcz HP6
          have hz16 : w1.heap.size ≤ w6.heap.size := HB6.out.size
          have HVb := Lib.hid (show ∀ k, (Value.slice Ab (gs.flatMap putF).length cb).ownBlock = some k → k < wr.heap.size from fun k hk => (HP.out.bytes.lt k hk).2)
          rw [← hb] at HVb
          obtain ⟨i0, hi', hz0, hz1', hz2⟩ := info_parts infoU8
          obtain ⟨j0', hj, jz0, jz1, jz2⟩ := info_parts infoFr
          clear h40 hb6 hop hP6 hF6 hog hfg hb hx a0 a1 a2 a3 a4 a5 a6 a7 a8 a9 d0 d1 d2 d3 d4 d5 d6 d7 d8 d9
          go_upto_region 11 with fail
          go_cut [5, 6] from 42 to 48 (fun bv gv wx => Piles w1.heap.size wx (gs ++ [f]) (b ++ x) (endsOf gs) bv gv (.slice Az gs.length cz) ∧ Below w1.heap.size w1 wx)
          case first =>
            obtain ⟨d0, d1, d2, d3, d4, d5, d6, d7, d8, d9⟩ := HF6.out
            go_region_law (first | (refine step_appS (ok := fun k => w4.heap.size ≤ k ∧ k < w6.heap.size) _ w1.heap.size (.tmp 42) (.tmp 43) 23 5 i0 (.int .u8 0) 1 1 (by rfl) (by rfl) Tryd.underlying23 hi' hz0 hz1' hz2 rfl (by omega) (by omega) (.slice Ab b.length cb) b.length (bvs b) (by rfl) (by first | exact own_below HP6.out.bytes (Below.refl w6.heap.size w6).drew | exact own_below HP6.out.bytes ((Below.refl w6.heap.size w6).drew.alloc (by simp) _)) PA x.length cp (bvs x) (by rfl) (by simp) (by first | exact HX6.out.move (fun k hk => (Below.refl w6.heap.size w6).drew.block k hk.2) | exact HX6.out.move (fun k hk => ((Below.refl w6.heap.size w6).drew.alloc (by simp) _).block k hk.2)) (bvs_one _) (by omega) (by simp; omega) ?_; intro v8 w8 hown8 hg8; (obtain ⟨hP8, hB8, hk8⟩ := HP6.out.bytesAt hz16 hown8 hg8 (by first | exact (Below.refl w6.heap.size w6).drew | exact (Below.refl w6.heap.size w6).drew.alloc (by simp) _)); (obtain ⟨A8, c8, rfl, _, _⟩ := own_slice hown8); (obtain ⟨cs8, hog8, hfg8⟩ := hP8.frames); (obtain ⟨e0, e1, e2, e3, e4, e5, e6, e7, e8, e9⟩ := HF6.out.move (hk8 _ hlt6 (fun e => Nat.lt_irrefl _ (HVb.out _ e.symm)))); (have hz68 := hB8.size)) | (refine step_appF w1.heap.size (.tmp 45) (.tmp 47) 45 25 j0' _ 10 112 (by rfl) (by rfl) Tryd.underlying45 hj jz0 jz1 jz2 rfl (by omega) (by omega) (.slice Ag gs.length cg) gs.length cs8 (by rfl) (by first | exact hog8 | exact hog8.alloc _) w8.heap.size [.int .i64 f.kind, .int .i64 f.seq, .int .i64 f.got, .int .i64 f.stream, .int .i64 f.amount, .int .i64 f.code, .string f.who, .string f.name, .float .f64 f.weight, .slice A1 f.bytes.length c1] (by rfl) rfl (by exact heap_alloc_new _ _) (by simp [Value.oneCell']) (by omega) (by first | omega | (simp; omega)) ?_; intro v9 w9 hown9 hg9; have hfin := hP8.framesAt (f := f) (A := A1) (c := c1) (Nat.le_trans hz16 hz68) hfg8 ((HR6.out.mono (ok' := (· < w1.heap.size)) (fun k hk => Nat.lt_of_lt_of_le hk hz1)).move (fun k hk => hk8 k (by omega) (fun e => by have := own_base HP6.out.bytes k e.symm; omega))) hown9 hg9 (by first | exact Below.refl _ _ | exact below_box _ _)) | (refine step_appF w1.heap.size (.tmp 45) (.tmp 47) 45 25 j0' _ 10 112 (by rfl) (by rfl) Tryd.underlying45 hj jz0 jz1 jz2 rfl (by omega) (by omega) (.slice Ag gs.length cg) gs.length cs8 (by rfl) (by first | exact hog8 | exact hog8.alloc _) w6.heap.size [.int .i64 f.kind, .int .i64 f.seq, .int .i64 f.got, .int .i64 f.stream, .int .i64 f.amount, .int .i64 f.code, .string f.who, .string f.name, .float .f64 f.weight, .slice A1 f.bytes.length c1] (by rfl) rfl (by exact (hg8.by_.block w6.heap.size (by simp) (fun e => by have := HVb.out _ e.symm; omega)).trans (heap_alloc_new _ _)) (by simp [Value.oneCell']) (by omega) (by first | omega | (simp; omega)) ?_; intro v9 w9 hown9 hg9; have hfin := hP8.framesAt (f := f) (A := A1) (c := c1) (Nat.le_trans hz16 hz68) hfg8 ((HR6.out.mono (ok' := (· < w1.heap.size)) (fun k hk => Nat.lt_of_lt_of_le hk hz1)).move (fun k hk => hk8 k (by omega) (fun e => by have := own_base HP6.out.bytes k e.symm; omega))) hown9 hg9 (by first | exact Below.refl _ _ | exact below_box _ _)))
            all_goals
              go_wp2_with fail
              go_meet
              exact ⟨hfin.1, (HB6.out.trans hB8).trans hfin.2⟩
          case rest =>
            obtain ⟨hP9, hB9⟩ := hcut
            obtain ⟨N, hN⟩ : ∃ N, N = (b ++ x).length := ⟨_, rfl⟩
            have hNl : N ≤ 607 * (gs.length + 1) := by rw [hN, List.length_append]; omega
            obtain ⟨A9, c9, hv9, hc9, _⟩ := own_slice hP9.bytes
            obtain ⟨_, hog9, _⟩ := hP9.frames
            obtain ⟨Ag9, cg9, hvg9, _, _⟩ := own_slice hog9
            rw [← hN] at hv9 hc9
            subst hv9 hvg9
            have HP9 := Lib.hid hP9
            have HB9 := Lib.hid hB9
            have HN := Lib.hid hN
            have hzc : w1.heap.size ≤ wc.heap.size := hB9.size
            obtain ⟨q0, hq, qz0, qz1, qz2⟩ := info_parts infoIn
            have hoz := hP9.ints
            rw [hel] at hoz
            have HOz := Lib.hid hoz
            clear hN hP9 hB9 hog9 hoz
            go_wp2_with (at_builtin; refine wpList_app1 (W := wc) w1.heap.size (.tmp 49) (.tmp 52) 70 3 q0 _ 8 (by rfl) (by rfl) Tryd.underlying70 hq qz0 qz1 qz2 rfl (by omega) _ gs.length (izs (endsOf gs)) (.int .i64 (N : Nat)) (by rfl) wc.heap.size rfl (by rfl) HOz.out rfl (by omega) (by omega) ?_; intro v10 w10 hown10 hg10)
            rw [← hel] at hown10
            obtain ⟨hP10, hB10⟩ := HP9.out.intsAt (z := (N : Int)) hzc hown10 hg10 (Below.refl _ _)
            have hbx : b ++ x = (gs ++ [f]).flatMap putF := by rw [flat_snoc, HBf.out, HXf.out]
            have hez : endsOf gs ++ [(N : Int)] = endsOf (gs ++ [f]) := by rw [endsOf_snoc, ← hbx, ← HN.out]
            have hgl : (gs ++ [f]).length = gs.length + 1 := by simp
            rw [hbx, hez, hgl] at hP10
            go_roundw
            case rel => exact ⟨i + 1, gs ++ [f], by omega, by go_num, hP10, fun g hg => by
                rcases List.mem_append.1 hg with h | h
                · exact HOk.out g h
                · rw [List.mem_singleton.1 h]; exact ⟨HCk.out, HLf.out.2⟩, by simp; omega, by simp; omega, HB9.out.trans hB10⟩
            case measure => simp [intOf]; omega
    · have j1 : ¬ (i : Int) < (fs.length : Int) := by omega
      have hbl := flat_le gs (fun g hg => (hok g hg).1)
      obtain ⟨b, hb⟩ : ∃ b, b = gs.flatMap putF := ⟨_, rfl⟩
      rw [← hb] at hP hbl
      obtain ⟨Ab, cb, hvb, hcb, _⟩ := own_slice hP.bytes
      obtain ⟨csg, hog, hfg⟩ := hP.frames
      obtain ⟨Ag, cg, hvg, hcg, _⟩ := own_slice hog
      obtain ⟨Az, cz, hvz, hcz, _⟩ := own_slice hP.ints
      rw [endsOf_len] at hvz hcz
      subst hvb hvg hvz
      have HP' := Lib.hid hP
      have HBf := Lib.hid hb
      obtain ⟨K, hK, hKb⟩ := cut_mod z b.length (by omega)
      have k1 : IntKind.i64.wrap ((b.length : Int) + 1) = (b.length : Int) + 1 := IntWalk.i64_in _ (by omega)
      have k2 : IntKind.u64.wrap ((b.length : Int) + 1) = (b.length : Int) + 1 := u64_nat (b.length + 1) (by omega)
      have k3 : ((b.length : Int) + 1) ≠ 0 := by omega
      clear hbel hBw hP hok hb hog hfg HP
      go_wp2_with fail
      have HKb := Lib.hid hKb
      clear hK k1 k2 k3 hKb
      obtain ⟨wq, rfl⟩ : ∃ W, W = wr := ⟨_, rfl⟩
      go_loopw [12, 13, 65] (fun nv av iv wx => ∃ k n : Nat, k ≤ gs.length ∧ iv = .int .i64 k ∧ nv = .int .i64 n ∧ av = .int .i64 (endE gs n : Nat) ∧ CutN gs K k n ∧ wx = wq) (fun _ _ iv _ => gs.length - (intOf iv).toNat)
      case atStart => exact ⟨0, 0, Nat.zero_le _, rfl, rfl, rfl, CutN.zero gs K, rfl⟩
      case round =>
        obtain ⟨k, n, hk, rfl, rfl, rfl, hcn, rfl⟩ := hrel
        have HCn := Lib.hid hcn
        have hnk := hcn.le
        by_cases hkl : k < gs.length
        · have hke : k < (endsOf gs).length := by rw [endsOf_len]; exact hkl
          have hcel := izs_get (endsOf gs) k hke
          rw [endsOf_get gs k hke] at hcel
          obtain ⟨zd, rfl, hzdb, hzc⟩ := RdC.of_own (n := (endsOf gs).length) (by rw [endsOf_len]; have := HP'.out.ints; rw [endsOf_len] at this; exact this) (by intro e; rw [e] at hcel; simp at hcel)
          have hzcell := hzc k _ hcel
          obtain ⟨E, hE⟩ : ∃ E, E = endE gs (k + 1) := ⟨_, rfl⟩
          rw [← hE] at hzcell
          have HEe := Lib.hid hE
          have z0 : (0 : Int) ≤ (k : Int) := by omega
          have z1 : (k : Int) < (gs.length : Int) := by omega
          have z3 : IntKind.i64.wrap ((k : Int) + 1) = (k : Int) + 1 := IntWalk.i64_in _ (by omega)
          have z4 : IntKind.i64.wrap ((n : Int) + 1) = (n : Int) + 1 := IntWalk.i64_in _ (by omega)
          clear hE hzc hcel hke hcn
          by_cases hle : E ≤ K
          · have z5 : (E : Int) ≤ (K : Int) := by omega
            have hy := HCn.out.yes (by rw [← HEe.out]; exact hle)
            go_wp2_with fail
            go_roundw
            case rel => exact ⟨k + 1, n + 1, by omega, by go_num, by go_num, by rw [hy.1, ← HEe.out], by rw [hy.1]; exact hy.2, trivial⟩
            case measure => simp [intOf]; omega
          · have z5 : ¬ (E : Int) ≤ (K : Int) := by omega
            have hy := HCn.out.no (by rw [← HEe.out]; exact hle)
            go_wp2_with fail
            go_roundw
            case rel => exact ⟨k + 1, n, by omega, by go_num, rfl, rfl, hy, trivial⟩
            case measure => simp [intOf]; omega
        · have z1 : ¬ (k : Int) < (gs.length : Int) := by omega
          have hkk : k = gs.length := by omega
          have hnl : n ≤ gs.length := by omega
          have hlow := hcn.low
          have hhigh := hcn.high
          rw [hkk] at hhigh
          have HHi := Lib.hid hhigh
          have HNs := Lib.hid (snew_any wr)
          clear hkk hhigh hcn HCn
          go_wp2_with fail
          refine HNs.out.mono ?_
          rintro e w5 ⟨rfl, hb5, hs5, hh5⟩
          have hsc : ScanAt wr.heap.size w5 wr.heap.size (.slice none 0 0) [] false := ⟨hh5, ⟨rfl, .inl ⟨rfl, rfl⟩⟩, Nat.le_refl _, by simp [Value.ownBlock]⟩
          have hKb := HKb.out
          have hkl : (b.take K).length = K := by rw [List.length_take]; omega
          have hrd : RdC (· < w5.heap.size) w5 Ab (bvs (b.take K)) := by
            have h1 := (((RdC.of_own HP'.out.bytes).mono (ok' := (· < wr.heap.size)) (fun k hk => hk.2)).step hb5).take K
            have h2 : (bvs b).take K = bvs (b.take K) := by simp [bvs, List.map_take]
            rwa [h2] at h1
          have hbw5 : Below w.heap.size w w5 := HBw.out.trans (hb5.mono HBw.out.size)
          have hfe := feed_any es wr.heap.size w5 wr.heap.size (.slice none 0 0) [] (b.take K) Ab K w HE.out hbw5 HBw.out.size hsc hrd (by rw [hkl]; simp; omega)
          have hj1 : scanB (b.take K) = (gs.take n, endE gs n, false) := by
            rw [HBf.out]
            exact joins_one gs HOk.out n K hnl hlow (by rw [← HBf.out]; exact hKb) HHi.out
          have hgt : (gs.take n).length = n := by rw [List.length_take]; omega
          unfold FeedP at hfe
          rw [List.nil_append, hj1, hkl] at hfe
          simp only [hgt] at hfe
          have HFe := Lib.hid hfe
          have HB5 := Lib.hid hb5
          have HBw5 := Lib.hid hbw5
          have HGt := Lib.hid hgt
          have i1 : (K : Int) ≤ (b.length : Int) := by omega
          have i2 : (K : Int) ≤ (cb : Int) := by omega
          have i3 : (0 : Int) ≤ (K : Int) := by omega
          clear hb5 hs5 hh5 hsc hkl hrd hbw5 hfe hj1 hgt HNs
          go_wp2_with fail
          refine HFe.out.mono ?_
          rintro e w6 ⟨Lv, cs, hown, hfr, hch, hres⟩
          rcases hres with ⟨_, rfl, v6, hsc6, hv6⟩ | ⟨h, _⟩
          · obtain ⟨AL, cL, rfl, hcL, _⟩ := own_slice hown
            have hB56 : Below wr.heap.size wr w6 := HB5.out.trans (hch.below HB5.out.size (fun k hk e => by
              rcases e with rfl | e
              · exact Nat.le_refl _
              · cases e))
            have hP6 := HP'.out.on HBel.out.size hB56
            have hB6w := below_on HBw.out hB56
            have hrl : RdFs w6 AL (gs.take n) := ⟨cs, (RdC.of_own hown).mono (fun k hk => hk.2), hfr.mono (fun k hk => hk.2)⟩
            have hrg := hP6.rdF (Nat.le_trans HBel.out.size hB56.size)
            have hsl := samelist_any (gs.take n) (gs.take n) AL Ag cL cg w6 hrl (hrg.takeS n) (by rw [HGt.out]; omega)
            rw [decide_eq_true rfl, HGt.out] at hsl
            have HSl := Lib.hid hsl
            have HP6 := Lib.hid hP6
            have HB6 := Lib.hid hB56
            have HBw6 := Lib.hid hB6w
            have HSc6 := Lib.hid hsc6
            have g1 : (n : Int) ≤ (gs.length : Int) := by omega
            have g2 : (n : Int) ≤ (cg : Int) := by omega
            have g3 : (0 : Int) ≤ (n : Int) := by omega
            clear hown hfr hch hsc6 hB56 hP6 hB6w hrl hrg hsl
            go_wp2_with fail
            refine HSl.out.mono ?_
            rintro e w7 ⟨rfl, hb7⟩
            have hsc7 := HSc6.out.on hb7
            have HHe := Lib.hid (held_any wr.heap.size w7 wr.heap.size _ _ _ hsc7)
            have HSc7 := Lib.hid hsc7
            have HP7 := Lib.hid (HP6.out.on (Nat.le_trans HBel.out.size HB6.out.size) hb7)
            have HB7 := Lib.hid (below_on HB6.out hb7)
            have HBw7 := Lib.hid (below_on HBw6.out hb7)
            clear hb7 hsc7
            obtain ⟨q, hq⟩ : ∃ q, q = ((b.take K).drop (endE gs n)).length := ⟨_, rfl⟩
            have hqe : q = K - endE gs n := by rw [hq, List.length_drop, List.length_take, Nat.min_eq_left hKb]
            have HHe2 := Lib.hid (show Calls Tryd.prog 27 #[.pointer (some ⟨wr.heap.size, 0, none⟩)] w7 (fun e w' => e = .returned (.int .i64 (q : Nat)) ∧ w7 = w') by rw [hq]; exact HHe.out)
            have kq : IntKind.i64.wrap ((K : Int) - (endE gs n : Int)) = (q : Int) := by rw [IntWalk.i64_in _ (by omega)]; omega
            have HQ := Lib.hid hq
            clear hq hqe HHe
            go_wp2_with fail
            refine HHe2.out.mono ?_
            rintro e w8 ⟨rfl, rfl⟩
            have hs8 := HSc7.out
            have hj2 : scanB ((b.take K).drop (endE gs n) ++ b.drop K) = (gs.drop n, ((gs.drop n).flatMap putF).length, false) ∧ ((b.take K).drop (endE gs n) ++ b.drop K).length = ((gs.drop n).flatMap putF).length := by
              have h1 : (b.take K).drop (endE gs n) ++ b.drop K = (gs.drop n).flatMap putF := by
                rw [HBf.out]
                exact joins_two gs n K hlow (by rw [← HBf.out]; exact hKb)
              rw [h1]
              exact ⟨scan_puts_all _ (fun g hg => HOk.out g (List.mem_of_mem_drop hg)), rfl⟩
            have hdl : (b.drop K).length = b.length - K := List.length_drop
            have hgd : (gs.drop n).length = gs.length - n := List.length_drop
            have hfe2 : ∀ (A2 : Option Addr) (c2 : Nat), RdC (· < w7.heap.size) w7 A2 (bvs (b.drop K)) → Calls Tryd.prog 24 #[.pointer (some ⟨wr.heap.size, 0, none⟩), .slice A2 (b.length - K) c2] w7 (fun e w' => ∃ (L : Value) (cs : List Value), w'.ownsRow w7.heap.size 25 10 L (gs.length - n) cs ∧ FrsV (fun k => w7.heap.size ≤ k ∧ k < w'.heap.size) w' (gs.drop n) cs ∧ Chg (FeedS wr.heap.size v6) w7 w' ∧ e = .returned (.tuple #[L, .nilIface]) ∧ ∃ v', ScanAt wr.heap.size w' wr.heap.size v' [] false) := by
              intro A2 c2 hR2
              have h := feed_any es wr.heap.size w7 wr.heap.size v6 _ (b.drop K) A2 c2 w HE.out HBw7.out HBw.out.size hs8 hR2 (by rw [List.length_drop, List.length_take, List.length_drop]; omega)
              rw [hdl] at h
              refine h.mono fun e w' h2 => ?_
              unfold FeedP at h2
              rw [hj2.1, ← hj2.2, List.drop_length] at h2
              simp only [hgd] at h2
              obtain ⟨L, cs, h3, h4, h5, h6⟩ := h2
              rcases h6 with ⟨_, rfl, v', h7, _⟩ | ⟨h6, _⟩
              · exact ⟨L, cs, h3, h4, h5, rfl, v', h7⟩
              · cases h6
            have hrb : RdC (· < w7.heap.size) w7 (if cb = K then Ab else Ab.map (·.add K)) (bvs (b.drop K)) := by
              have h1 := (RdC.of_own HP7.out.bytes).mono (ok' := (· < w7.heap.size)) (fun k hk => hk.2)
              exact h1.dropIf cb K hcb
            have HFe2 := Lib.hid hfe2
            have HGd := Lib.hid hgd
            have hrg7 := (HP7.out.rdF (Nat.le_trans HBel.out.size HB7.out.size)).dropS n cg hcg
            have HRg7 := Lib.hid hrg7
            have j5 : (n : Int) ≤ (gs.length : Int) := by omega
            have j6 : (gs.length : Int) ≤ (cg : Int) := by omega
            have j7 : (b.length : Int) ≤ (cb : Int) := by omega
            clear hs8 hj2 hdl hgd hfe2 hrg7 HHe2
            by_cases hq1 : cb = K
            all_goals
              first | rw [if_pos hq1] at hrb | rw [if_neg hq1] at hrb
              have HRb := Lib.hid hrb
              clear hrb
              go_wp2_with fail
              refine (HFe2.out _ _ HRb.out).mono ?_
              rintro e w9 ⟨Lv2, cs2, hown, hfr, hch, rfl, v9, hsc9⟩
              obtain ⟨AM, cM, rfl, hcM, _⟩ := own_slice hown
              have hB9 : Below wr.heap.size wr w9 := HB7.out.trans (hch.below HB7.out.size (fun k hk e => by
                rcases e with rfl | e
                · exact Nat.le_refl _
                · exact own_base HSc7.out.own k e.symm))
              have HB9 := Lib.hid hB9
              have HSc9 := Lib.hid hsc9
              have hkeep : ∀ k, k < w7.heap.size → k < wr.heap.size → w9.heap[k]? = w7.heap[k]? := fun k hk hr => (hch.block k hk (fun e => by
                rcases e with rfl | e
                · omega
                · have := own_base HSc7.out.own k e.symm; omega))
              have hrl : RdFs w9 AM (gs.drop n) := ⟨cs2, (RdC.of_own hown).mono (fun k hk => hk.2), hfr.mono (fun k hk => hk.2)⟩
              have HRl := Lib.hid hrl
              have hrg9 := (HP'.out.on HBel.out.size hB9).rdF (Nat.le_trans HBel.out.size hB9.size)
              have HRg9 := Lib.hid (hrg9.dropS n cg hcg)
              clear hown hfr hch hB9 hsc9 hkeep hrl hrg9
              by_cases hq2 : cg = n
              all_goals
                have hrr := HRg9.out
                first | rw [if_pos hq2] at hrr | rw [if_neg hq2] at hrr
                have hsl := fun (B : Option Addr) (cB : Nat) (h : RdFs w9 B (gs.drop n)) => samelist_any (gs.drop n) (gs.drop n) AM B cM cB w9 HRl.out h (by rw [HGd.out]; omega)
                rw [decide_eq_true rfl, HGd.out] at hsl
                have HSl := Lib.hid hsl
                have HRr := Lib.hid hrr
                clear hsl hrr
                go_wp2_with fail
                refine (HSl.out _ _ HRr.out).mono ?_
                rintro e w10 ⟨rfl, hb10⟩
                have HHe := Lib.hid (held_any wr.heap.size w10 wr.heap.size _ _ _ (HSc9.out.on hb10))
                have HB10 := Lib.hid (below_on HBw.out (below_on HB9.out hb10))
                clear hb10
                go_wp2_with fail
                refine HHe.out.mono ?_
                rintro e w11 ⟨rfl, rfl⟩
                go_wp2_with fail
                go_ret
                exact ⟨rfl, HB10.out⟩
          · cases h
end Go.Proofs.YtpekagkhgegefaaDoor
