/- Walk of package hash: piece. -/
import Derived.Test.YtipgimmgjdgdeaaDoorHw
set_option linter.unusedVariables false
set_option linter.unusedSimpArgs false
set_option linter.unnecessarySimpa false
namespace Go.Proofs.YtipgimmgjdgdeaaDoor
open Go.RowKit

/-- A region that draws its order: n reads and quiet calls, then a forced tail. -/
theorem region_tail {P : Program} {id : Nat} {Q : Exit → Act → World → Prop} {a : Act} {w : World} {l : List Oper} (n : Nat) (hm : P.follows .mixedOrders = true) (hB : Region.lexTailB .any l.toArray n = true)
    (h : wpStill P l.toArray w.drew (fun a' => wpList P l.toArray Q (l.drop n) a' w.drew) (l.take n) a) : (Code.region id l.toArray true).wp P Q a w := wp_region_still_tail n hm hB h
theorem round_index (t : Nat) (h : t < 64) (w : World) : (Instr.index 157 (.agg (u32s roundWords).toArray) (.int .i64 (t : Int))).run Tryd.prog w = .ok (.int .u32 ((roundWords.getD t 0 : Nat) : Int)) w := by
  have hlt : t < roundWords.length := h
  have hs : Tryd.prog.cellsOf 152 = 1 := by kernel_rfl
  obtain ⟨i0, hi⟩ := Option.isSome_iff_exists.1 (show (Tryd.prog.info? 152).isSome = true by kernel_rfl)
  simp [Instr.index, run_underlying Tryd.underlying157, asIntOf, run_sizeOf w hi, hs, part, h, isAgg, run_underlying Tryd.underlying152, u32s]
  rw [List.getElem?_eq_getElem hlt]
  rfl
theorem turn_s (x : Nat) (n : Int) (w : World) (hx : x < 4294967296) (h0 : 0 < n) (hn : n < 32) : Calls Tryd.prog 95 #[.int .u32 x, .int .i64 n] w (fun e w' => e = .returned (.int .u32 (rotr x n.toNat)) ∧ w' = w) :=
  (turn_i x n w hx h0 hn).mono fun _ _ h => ⟨h.1, h.2.symm⟩
set_option maxRecDepth 8000 in
set_option maxHeartbeats 4000000 in
theorem piece_any (w : World) (v : V8) (g : Nat) (A : Option Addr) (c : Nat) (p : Bs) (rest : Value) (n : Nat) (hv : v.ok) (hg : g < w.heap.size) (hSt : StAt w g v rest n) (hRo : RoundAt w) (hc : 64 ≤ c) (hp : p.length = 64) (hR : RdC (· < w.heap.size) w A (bvs p)) : Calls Tryd.prog 93 #[.pointer (some ⟨g, 0, none⟩), .slice A 64 c] w (PieceP w v g p rest n) := by
  have HP := Lib.hid hp
  have HR := Lib.hid hR
  clear hp hR
  have HV := Lib.hid hv
  have HSt := Lib.hid hSt
  have HRo := Lib.hid hRo
  clear hv hSt hRo
  go_enter Tryd.func93, Tryd.ntmps93
  go_wp2_with fail
  go_loopw [14] (fun i wr => ∃ t : Nat, t ≤ 64 ∧ i = .int .i64 t ∧ ArrAt wr w.heap.size 157 (arrW (natBytes p) t) ∧ Below w.heap.size w wr) (fun i _ => 64 - (intOf i).toNat)
  case atStart => exact ⟨0, by omega, rfl, by unfold ArrAt; rw [heap_alloc_new]; rfl, (Below.refl _ _).alloc (Nat.le_refl _) _⟩
  case round =>
    obtain ⟨t, ht, rfl, harr, hbel⟩ := hrel
    by_cases h64 : t < 64
    · have j0 : (0 : Int) ≤ (t : Int) := by omega
      have j1 : (t : Int) < 64 := by omega
      have j2 : IntKind.i64.wrap ((t : Int) + 1) = (t : Int) + 1 := IntWalk.i64_in _ (by omega)
      by_cases h16 : t < 16
      · as_aux_lemma =>
          have j3 : (t : Int) < 16 := by omega
          have hRr := HR.out.below hbel
          obtain ⟨ad, rfl, hadb, c0, b0⟩ := byte_at hRr (4 * t) (by rw [HP.out]; omega)
          obtain ⟨ad', e', _, c1, b1⟩ := byte_at hRr (4 * t + 1) (by rw [HP.out]; omega)
          cases e'
          obtain ⟨ad', e', _, c2, b2⟩ := byte_at hRr (4 * t + 2) (by rw [HP.out]; omega)
          cases e'
          obtain ⟨ad', e', _, c3, b3⟩ := byte_at hRr (4 * t + 3) (by rw [HP.out]; omega)
          cases e'
          have hwd : wordAt (natBytes p) t = (((natBytes p).getD (4 * t) 0 * 256 + (natBytes p).getD (4 * t + 1) 0) * 256 + (natBytes p).getD (4 * t + 2) 0) * 256 + (natBytes p).getD (4 * t + 3) 0 := rfl
          generalize (natBytes p).getD (4 * t) 0 = x0 at *
          generalize (natBytes p).getD (4 * t + 1) 0 = x1 at *
          generalize (natBytes p).getD (4 * t + 2) 0 = x2 at *
          generalize (natBytes p).getD (4 * t + 3) 0 = x3 at *
          have hor := word_or x0 x1 x2 x3 b0 b1 b2 b3
          rw [← hwd] at hor
          have HWd := Lib.hid hwd
          clear hwd
          have m0 : IntKind.i64.wrap (4 * (t : Int)) = 4 * (t : Int) := IntWalk.i64_in _ (by omega)
          have m1 : IntKind.i64.wrap (4 * (t : Int) + 1) = 4 * (t : Int) + 1 := IntWalk.i64_in _ (by omega)
          have m2 : IntKind.i64.wrap (4 * (t : Int) + 2) = 4 * (t : Int) + 2 := IntWalk.i64_in _ (by omega)
          have m3 : IntKind.i64.wrap (4 * (t : Int) + 3) = 4 * (t : Int) + 3 := IntWalk.i64_in _ (by omega)
          have q0 : (4 * (t : Int)).toNat = 4 * t := by omega
          have q1 : (4 * (t : Int) + 1).toNat = 4 * t + 1 := by omega
          have q2 : (4 * (t : Int) + 2).toNat = 4 * t + 2 := by omega
          have q3 : (4 * (t : Int) + 3).toNat = 4 * t + 3 := by omega
          have r0 : 0 ≤ 4 * (t : Int) ∧ 4 * (t : Int) < 64 := by omega
          have r1 : 0 ≤ 4 * (t : Int) + 1 ∧ 4 * (t : Int) + 1 < 64 := by omega
          have r2 : 0 ≤ 4 * (t : Int) + 2 ∧ 4 * (t : Int) + 2 < 64 := by omega
          have r3 : 0 ≤ 4 * (t : Int) + 3 ∧ 4 * (t : Int) + 3 < 64 := by omega
          have w0 : IntKind.u32.wrap (x0 : Int) = x0 := IntWalk.u32_in _ (by omega)
          have w1 : IntKind.u32.wrap (x1 : Int) = x1 := IntWalk.u32_in _ (by omega)
          have w2 : IntKind.u32.wrap (x2 : Int) = x2 := IntWalk.u32_in _ (by omega)
          have w3 : IntKind.u32.wrap (x3 : Int) = x3 := IntWalk.u32_in _ (by omega)
          have s0 : (x0 : Int) * 16777216 % 4294967296 = (x0 : Int) * 16777216 := by omega
          have s1 : (x1 : Int) * 65536 % 4294967296 = (x1 : Int) * 65536 := by omega
          have s2 : (x2 : Int) * 256 % 4294967296 = (x2 : Int) * 256 := by omega
          have hl : (arrW (natBytes p) t).length = 64 := by
            unfold arrW
            rw [List.length_append, List.length_take, sched_length, List.length_replicate]
            omega
          have hcl := harr.cell t (by omega)
          have hfz := harr.frozen t
          have hadd : (⟨w.heap.size, 0, none⟩ : Addr).add t = ⟨w.heap.size, t, none⟩ := by unfold Addr.add; split <;> simp_all
          have hpa : ∀ j, 0 < j → ad.add j = ⟨ad.block, ad.off + j, none⟩ := fun j hj => by
            have := add_field ad 0 j hj
            simpa [Addr.add] using this
          have d1 : wr.cell? ⟨ad.block, ad.off + (4 * t + 1), none⟩ = some (.int .u8 x1) := by rw [← hpa _ (by omega)]; exact c1
          have d2 : wr.cell? ⟨ad.block, ad.off + (4 * t + 1 + 1), none⟩ = some (.int .u8 x2) := by rw [← hpa _ (by omega)]; exact c2
          have d3 : wr.cell? ⟨ad.block, ad.off + (4 * t + 2 + 1), none⟩ = some (.int .u8 x3) := by rw [← hpa _ (by omega)]; exact c3
          have d4 : wr.cell? ⟨ad.block, ad.off + (4 * t + 2), none⟩ = some (.int .u8 x2) := by rw [← hpa _ (by omega)]; exact c2
          have HArr := Lib.hid harr
          have HBel := Lib.hid hbel
          clear harr hbel hRr hl hpa
          go_wp2_with fail
          go_region
          go_wp2
          go_roundw
          case rel => exact ⟨t + 1, by omega, by go_num, by rw [← arrW_set (natBytes p) t _ h64 (sched_first _ t h16)]; exact HArr.out.set t _, (below_set HBel.out _ _ _ (Nat.le_refl _)).drew⟩
          case measure => simp [intOf]; omega
      · as_aux_lemma =>
          have j3 : ¬ (t : Int) < 16 := by omega
          have m0 : IntKind.i64.wrap ((t : Int) - 15) = (t : Int) - 15 := IntWalk.i64_in _ (by omega)
          have m1 : IntKind.i64.wrap ((t : Int) - 2) = (t : Int) - 2 := IntWalk.i64_in _ (by omega)
          have m2 : IntKind.i64.wrap ((t : Int) - 16) = (t : Int) - 16 := IntWalk.i64_in _ (by omega)
          have m3 : IntKind.i64.wrap ((t : Int) - 7) = (t : Int) - 7 := IntWalk.i64_in _ (by omega)
          have q0 : ((t : Int) - 15).toNat = t - 15 := by omega
          have q1 : ((t : Int) - 2).toNat = t - 2 := by omega
          have q2 : ((t : Int) - 16).toNat = t - 16 := by omega
          have q3 : ((t : Int) - 7).toNat = t - 7 := by omega
          have r0 : 0 ≤ (t : Int) - 15 ∧ (t : Int) - 15 < 64 := by omega
          have r1 : 0 ≤ (t : Int) - 2 ∧ (t : Int) - 2 < 64 := by omega
          have r2 : 0 ≤ (t : Int) - 16 ∧ (t : Int) - 16 < 64 := by omega
          have r3 : 0 ≤ (t : Int) - 7 ∧ (t : Int) - 7 < 64 := by omega
          have k7 : (7 : Int) ≤ (t : Int) := by omega
          have k16 : (16 : Int) ≤ (t : Int) := by omega
          have hadd : ∀ j, (⟨w.heap.size, 0, none⟩ : Addr).add j = ⟨w.heap.size, j, none⟩ := fun j => by unfold Addr.add; split <;> simp_all
          have hl : (arrW (natBytes p) t).length = 64 := by
            unfold arrW
            rw [List.length_append, List.length_take, sched_length, List.length_replicate]
            omega
          have c0 := harr.cell (t - 15) (by omega)
          have c1 := harr.cell (t - 2) (by omega)
          have c2 := harr.cell (t - 16) (by omega)
          have c3 := harr.cell (t - 7) (by omega)
          have c4 := harr.cell t (by omega)
          have hfz := harr.frozen t
          rw [arrW_old _ _ _ (by omega) (by omega)] at c0 c1 c2 c3
          have hnx := sched_next (natBytes p) t (by omega) h64
          have b0 := sched_lt p (t - 15)
          have b1 := sched_lt p (t - 2)
          have b2 := sched_lt p (t - 16)
          have b3 := sched_lt p (t - 7)
          generalize (sched (natBytes p)).getD (t - 15) 0 = x at *
          generalize (sched (natBytes p)).getD (t - 2) 0 = y at *
          generalize (sched (natBytes p)).getD (t - 16) 0 = a at *
          generalize (sched (natBytes p)).getD (t - 7) 0 = b at *
          have HArr := Lib.hid harr
          have HBel := Lib.hid hbel
          have HNx := Lib.hid hnx
          clear harr hbel hl hnx
          go_wp2_with fail
          go_quiet (fail)
          go_wp2_with fail
          refine region_tail 29 (by kernel_rfl) (by kernel_rfl) ?_
          simp only [List.take_succ_cons, List.take_zero, List.drop_succ_cons, List.drop_zero]
          repeat still_step
          still_call (turn_s x 7 _ b0 (by decide) (by decide))
          repeat still_step
          still_call (turn_s x 18 _ b0 (by decide) (by decide))
          repeat still_step
          still_call (turn_s y 17 _ b1 (by decide) (by decide))
          repeat still_step
          still_call (turn_s y 19 _ b1 (by decide) (by decide))
          repeat still_step
          refine wpStill_nil ?_
          go_wp2
          go_roundw
          case rel =>
            refine ⟨t + 1, by omega, by go_num, ?_, below_set (below_drewN HBel.out _) _ _ _ (Nat.le_refl _)⟩
            rw [mix_eq a b x y b0 b1]
            rw [← arrW_set (natBytes p) t _ h64 HNx.out]
            exact (HArr.out.move (w' := wr.drewN (nq + 1)) rfl).set t _
          case measure => simp [intOf]; omega
    · obtain rfl : t = 64 := by omega
      rw [arrW_all] at harr
      have hst := HSt.out.move (hbel.block g hg)
      obtain ⟨c0, c1, c2, c3, c4, c5, c6, c7, c8, c9, cf⟩ := hst.cells
      have HArr := Lib.hid harr
      have HBel := Lib.hid hbel
      have HRr := Lib.hid (HRo.out.below hbel HRo.out.lt)
      have HSt2 := Lib.hid hst
      clear harr hbel hst
      obtain ⟨R, hR1, hR2, hR3⟩ : ∃ R : List Value, wr.rangeAt 19 0 R ∧ R.length = 64 ∧ ∀ (t : Nat), t < 64 → ∀ w : World, (Instr.index 157 (.agg R.toArray) (.int .i64 (t : Int))).run Tryd.prog w = .ok (.int .u32 ((roundWords.getD t 0 : Nat) : Int)) w := ⟨u32s roundWords, HRr.out.cells, by decide +kernel, round_index⟩
      have HR1 := Lib.hid hR1
      have HR2 := Lib.hid hR2
      have HR3 := Lib.hid hR3
      clear hR1 hR2 hR3
      go_wp2_with (with_reducible refine wpList_load_mid (op := ⟨some 96, _, _, _, _, _⟩) rfl _ _ rfl 19 0 rfl R _ (World.rangeAt_alloc HR1.out _) Tryd.underlying157 rfl (by rw [HR2.out]; kernel_rfl) ?_)
      obtain ⟨wo, rfl⟩ : ∃ wo : World, wo = wr := ⟨_, rfl⟩
      go_loopw [97] (fun i wq => ∃ t : Nat, t ≤ 64 ∧ i = .int .i64 t ∧ ArrAt wq w.heap.size 157 (sched (natBytes p)) ∧ ArrAt wq wo.heap.size 153 (roundsR v (roundWords.take t) ((sched (natBytes p)).take t)).list ∧ Below w.heap.size w wq) (fun i _ => 64 - (intOf i).toNat)
      case atStart =>
        exact ⟨0, by omega, rfl, HArr.out.move (heap_alloc_old _ _ HArr.out.lt), by unfold ArrAt; rw [heap_alloc_new]; rfl, HBel.out.alloc HBel.out.size _⟩
      case round =>
        obtain ⟨t, ht, rfl, harr, hva, hbel⟩ := hrel
        by_cases h64 : t < 64
        · as_aux_lemma =>
            have hok := roundsR_ok (roundWords.take t) ((sched (natBytes p)).take t) v HV.out
            have hsn := roundsR_snoc t roundWords (sched (natBytes p)) v h64 (by rw [sched_length]; exact h64)
            have hix := HR3.out t h64
            have hwt := harr.cell t (by rw [sched_length]; exact h64)
            generalize (sched (natBytes p)).getD t 0 = x at *
            generalize roundWords.getD t 0 = k at *
            generalize roundsR v (roundWords.take t) ((sched (natBytes p)).take t) = u at *
            obtain ⟨oa, ob, oc, od, oe, of, og, oh⟩ := hok
            obtain ⟨d0, d1, d2, d3, d4, d5, d6, d7, df⟩ := hva.eight
            have j0 : (0 : Int) ≤ (t : Int) := by omega
            have j1 : (t : Int) < 64 := by omega
            have HArr2 := Lib.hid harr
            have HVa := Lib.hid hva
            have HBel2 := Lib.hid hbel
            have HSn := Lib.hid hsn
            clear c0 c1 c2 c3 c4 c5 c6 c7 c8 c9 cf harr hva hbel hsn
            have hadd : ∀ b j, (⟨b, 0, none⟩ : Addr).add j = ⟨b, j, none⟩ := fun b j => by unfold Addr.add; split <;> simp_all
            go_wp2_with fail
            have hnot : (if IntKind.u32.signed = true then (-1 : Int) else IntKind.u32.max) = 4294967295 := rfl
            go_quiet ((go_at_call 95; exact Calls.quiet_of_same (turn_s u.e _ _ oe (by omega) (by omega))))
            rw [one_eq u k x oe of og]
            generalize hone : oneR u k x = one at *
            have HOne := Lib.hid hone
            clear hone
            go_wp2_with fail
            obtain ⟨na, rfl⟩ : ∃ x : Nat, x = nq := ⟨_, rfl⟩
            go_quiet ((go_at_call 95; exact quiet_add_same (turn_s u.a _ _ oa (by omega) (by omega))))
            rw [two_eq u oa ob oc]
            go_wp2_with fail
            refine region_tail 2 (by kernel_rfl) (by kernel_rfl) ?_
            simp only [List.take_succ_cons, List.take_zero, List.drop_succ_cons, List.drop_zero]
            repeat still_step
            refine wpStill_nil ?_
            refine copy_shift rfl _ _ 159 152 153 rfl Tryd.underlying159 (by kernel_rfl) wo.heap.size 7 8 rfl rfl u (HVa.out.move rfl) ?_
            intro w2 ha2 hb2 ho2
            have e4 : w2.cell? ⟨wo.heap.size, 4, none⟩ = some (.int .u32 (u.d : Int)) := ha2.cell 4 (show 4 < 8 by omega)
            have e0 : w2.cell? ⟨wo.heap.size, 0, none⟩ = some (.int .u32 (u.a : Int)) := ha2.cell 0 (show 0 < 8 by omega)
            have ef := ha2.frozen
            have HA2 := Lib.hid ha2
            have HB2 := Lib.hid hb2
            have HO2 := Lib.hid ho2
            clear ha2 hb2 ho2 hnot hwt hix d0 d1 d2 d3 d4 d5 d6 d7 df
            go_wp2_with fail
            go_roundw
            case rel =>
              have hne : w.heap.size ≠ wo.heap.size := Nat.ne_of_lt HArr.out.lt
              refine ⟨t + 1, by omega, by go_num, ?_, ?_, ?_⟩
              · exact HArr2.out.move ((heap_setCell_other _ _ _ _ hne).trans ((heap_setCell_other _ _ _ _ hne).trans (HO2.out _ hne)))
              · have q1 : ((u.d : Int) + (one : Int)) % 4294967296 = (((u.d + one) % 4294967296 : Nat) : Int) := by omega
                have q2 : ((one : Int) + ((twoR u : Nat) : Int)) % 4294967296 = (((one + twoR u) % 4294967296 : Nat) : Int) := by omega
                rw [HSn.out, stepR_eq, HOne.out, q1, q2]
                exact (HA2.out.set 4 _).set 0 _
              · have hle : w.heap.size ≤ wo.heap.size := HBel.out.size
                exact below_set (below_set (HB2.out _ _ hle (below_drewN (below_drewN HBel2.out _) _).drew) _ _ _ hle) _ _ _ hle
            case measure => simp [intOf]; omega
        · obtain rfl : t = 64 := by omega
          have hst : StL wr g v.list rest n := HSt.out.move (hbel.block g hg)
          rw [List.take_of_length_le (show roundWords.length ≤ 64 from Nat.le_refl _), List.take_of_length_le (show (sched (natBytes p)).length ≤ 64 by rw [sched_length]; omega)] at hva
          generalize hu : roundsR v roundWords (sched (natBytes p)) = u at *
          have HU := Lib.hid hu
          have HVa := Lib.hid hva
          have HSt3 := Lib.hid hst
          have HBel2 := Lib.hid hbel
          clear c0 c1 c2 c3 c4 c5 c6 c7 c8 c9 cf harr hva hbel hst hu
          rw [show ((64 : Nat) : Int) = 64 from rfl]
          go_wp2_with fail
          go_loopw [176] (fun i wq => ∃ t : Nat, t ≤ 8 ∧ i = .int .i64 t ∧ ArrAt wq wo.heap.size 153 u.list ∧ StL wq g (sumL v.list u.list t) rest n ∧ w.grownBy wq (some g)) (fun i _ => 8 - (intOf i).toNat)
          case atStart => exact ⟨0, by omega, rfl, HVa.out, by rw [sumL_none]; exact HSt3.out, grown_of_below HBel2.out _⟩
          case round =>
            obtain ⟨t, ht, rfl, hva, hst, hgr⟩ := hrel
            have hl : (sumL v.list u.list t).length = 8 := sumV_length v u t ht
            by_cases h8 : t < 8
            · as_aux_lemma =>
                have c0 := hst.cell t (by omega)
                rw [sumV_get v u t h8] at c0
                have c1 := hva.cell t (by rw [V8.list_length]; exact h8)
                have cf := hst.frozen t
                have hset := sumV_set v u t h8
                generalize v.list.getD t 0 = x at *
                generalize u.list.getD t 0 = y at *
                have j0 : (0 : Int) ≤ (t : Int) := by omega
                have j1 : (t : Int) < 8 := by omega
                have hadd : ∀ b j, (⟨b, 0, none⟩ : Addr).add j = ⟨b, j, none⟩ := fun b j => by unfold Addr.add; split <;> simp_all
                have HVa2 := Lib.hid hva
                have HSt4 := Lib.hid hst
                have HGr := Lib.hid hgr
                have HSet := Lib.hid hset
                clear hva hst hgr hset
                go_wp2_with fail
                refine region_tail 13 (by kernel_rfl) (by kernel_rfl) ?_
                simp only [List.take_succ_cons, List.take_zero, List.drop_succ_cons, List.drop_zero]
                repeat still_step
                refine wpStill_nil ?_
                go_wp2_with fail
                go_roundw
                case rel =>
                  have q1 : ((x : Int) + (y : Int)) % 4294967296 = (((x + y) % 4294967296 : Nat) : Int) := by omega
                  have hne : wo.heap.size ≠ g := by have := HBel.out.size; omega
                  refine ⟨t + 1, by omega, by go_num, HVa2.out.move (heap_setCell_other _ _ _ _ hne), ?_, only_setCell (grown_drewN HGr.out 1) _ _⟩
                  rw [q1, ← HSet.out]
                  exact (HSt4.out.move (w' := wr.drew) rfl).set t _ (by omega)
                case measure => simp [intOf]; omega
            · obtain rfl : t = 8 := by omega
              rw [sumL_all] at hst
              have HSt4 := Lib.hid hst
              have HGr := Lib.hid hgr
              clear hva hst hgr
              go_wp2_with fail
              go_end0
              exact ⟨rfl, by unfold pieceV; rw [HU.out]; exact HSt4.out, HGr.out⟩
end Go.Proofs.YtipgimmgjdgdeaaDoor
