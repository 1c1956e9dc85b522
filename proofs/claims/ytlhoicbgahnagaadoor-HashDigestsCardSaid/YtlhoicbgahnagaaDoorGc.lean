/- Walk of the statement HashChecks. -/
import Derived.Test.YtlhoicbgahnagaaDoorGb
set_option linter.unusedVariables false
set_option linter.unusedSimpArgs false
set_option linter.unnecessarySimpa false
namespace Go.Proofs.YtlhoicbgahnagaaDoor
open Go.RowKit

theorem fifth (k : Int) : ∃ M : Nat, wrap64 ((IntKind.u64.wrap k).tmod 5) = (M : Int) ∧ M < 5 := by
  have h0 : 0 ≤ IntKind.u64.wrap k := by rw [IntKind.wrap_u64]; omega
  have h1 : (IntKind.u64.wrap k).tmod 5 = IntKind.u64.wrap k % 5 := Int.tmod_eq_emod_of_nonneg h0
  rw [h1]
  generalize IntKind.u64.wrap k = z at *
  refine ⟨(z % 5).toNat, ?_, by omega⟩
  rw [IntWalk.wrap64_in _ (by omega)]
  omega
theorem row_lit (w : World) (base : Nat) (vs : List Value) (n : Nat) (hb : base ≤ w.heap.size) (hn : vs.length = n) (hm : n ≤ 1000000) : (w.alloc (.cells vs.toArray 22)).ownsRow base 22 1 (.slice (some ⟨w.heap.size, 0, none⟩) n n) n vs :=
  World.ownsRow_lit w vs.toArray n hb (by unfold maxLen; omega) (by simpa using hn)
set_option maxRecDepth 8000 in
set_option maxHeartbeats 2000000 in
theorem checks_walk (w : World) (B : Option Addr) (cb : Nat) (b : Bs) (k : Int) (hk0 : -9223372036854775808 ≤ k) (hk1 : k ≤ 9223372036854775807) (hRo : RoundAt w) (hB : RdC (· < w.heap.size) w B (bvs b)) (hlb : b.length ≤ maxLen) (hcb : b.length ≤ cb) :
    Calls Tryd.prog 8 #[.slice B b.length cb, .int .i64 k] w (OkPost w) := by
  unfold maxLen at hlb
  have HRo := Lib.hid hRo
  have HB := Lib.hid hB
  clear hRo hB
  by_cases hb : b.length ≤ 5000
  · have t1 : ¬ (5000 : Int) < (b.length : Int) := by omega
    obtain ⟨i0, hi, hz0, hz1, hz2⟩ := info_parts infoRow
    go_enter Tryd.func8, Tryd.ntmps8
    go_wp2_with fail
    refine (alive_any w HRo.out).mono ?_
    rintro e w0 ⟨rfl, hb0⟩
    have HB0 := Lib.hid hb0
    have HBb0 := Lib.hid (HB.out.step hb0)
    have HR0 := Lib.hid (HRo.out.below hb0 HRo.out.lt)
    clear hb0
    obtain ⟨M, hM, hM5⟩ := fifth k
    go_wp2_with fail
    rw [hM]
    clear hM
    have hr := row_lit w0 w0.heap.size [.slice B b.length cb] 1 (Nat.le_refl _) rfl (by omega)
    have hrw : RowsOf (· < (w0.alloc (.cells #[.slice B b.length cb] 22)).heap.size) (w0.alloc (.cells #[.slice B b.length cb] 22)) [.slice B b.length cb] [b] := (rows_new (rows_one HBb0.out hcb rfl)).2
    have HRl := Lib.hid hr
    have HRw := Lib.hid hrw
    clear hr hrw
    go_loopw [5, 19] (fun v i wq => ∃ (t : Nat) (vs : List Value) (ps : List Bs), t ≤ M ∧ i = .int .i64 t ∧ vs.length = 2 * t + 1 ∧ ps.flatten = b ∧ wq.ownsRow w0.heap.size 22 1 v (2 * t + 1) vs ∧ RowsOf (· < wq.heap.size) wq vs ps ∧ Below w0.heap.size w0 wq) (fun _ i _ => M - (intOf i).toNat)
    case atStart => exact ⟨0, _, [b], Nat.zero_le _, rfl, rfl, by simp, HRl.out, HRw.out, (Below.refl _ _).alloc (Nat.le_refl _) _⟩
    case round =>
      obtain ⟨t, vs, ps, ht, rfl, hvl, hfl, hown, hrows, hbel⟩ := hrel
      obtain ⟨A1, c1, rfl, hc1, _⟩ := own_slice hown
      by_cases hlt : t < M
      · have j0 : (t : Int) < (M : Int) := by omega
        have hbw : w0.heap.size ≤ wr.heap.size := hbel.size
        have hr2 := row_lit wr wr.heap.size [.slice none 0 0] 1 (Nat.le_refl _) rfl (by omega)
        have hsrc : RdC (fun k => w0.heap.size ≤ k ∧ k < wr.heap.size) (wr.alloc (.cells #[.slice none 0 0] 22 (0, 0))) (some ⟨0, 0, none⟩) [] := RdC.nil _ _ _
        have hrd := (RdC.of_own hown).move (w' := wr.alloc (.cells #[.slice none 0 0] 22 (0, 0))) (fun k hk => heap_alloc_old _ _ hk.2)
        have HO := Lib.hid hown
        have HRws := Lib.hid hrows
        have HBe := Lib.hid hbel
        have HR2 := Lib.hid hr2
        have HRd := Lib.hid hrd
        have HVl := Lib.hid hvl
        have HFl := Lib.hid hfl
        clear hown hrows hbel hr2 hrd hsrc hvl hfl
        go_wp2_with (first
          | (
            at_builtin
            refine wpList_appS _ wr.heap.size (.tmp 21) (.tmp 22) 23 22 i0 (.slice none 0 0) 1 24 rfl (by rfl) Tryd.underlying23 hi hz0 hz1 hz2 rfl (by omega) (by omega) _ 1 [.slice none 0 0] (by rfl) HR2.out A1 (2 * t + 1) c1 vs (by rfl) (by rw [HVl.out]; omega) HRd.out (HRws.out.one) (by omega) (by simp) ?_
            intro v2 w2 hown2 hg2
            have hb2 : Below wr.heap.size wr w2 := hg2.below ((Below.refl _ _).alloc (Nat.le_refl _) _) (by simp) (fun k hk => by simp [Value.ownBlock] at hk; omega)
            have HO2 := Lib.hid hown2
            have HG2 := Lib.hid hb2
            have hbw2 : w0.heap.size ≤ w2.heap.size := Nat.le_trans hbw hb2.size
            have hww : wr.heap.size ≤ w2.heap.size := hb2.size
            clear hown2 hg2 hb2)
          | (
            at_builtin
            refine wpList_appS (ok := fun k => k = w2.heap.size + 1) _ wr.heap.size (.tmp 23) (.tmp 25) 23 22 i0 (.slice none 0 0) 1 24 rfl (by rfl) Tryd.underlying23 hi hz0 hz1 hz2 rfl (by omega) (by omega) _ (1 + (2 * t + 1)) ([.slice none 0 0] ++ vs) (by rfl) ((HO2.out.alloc _).alloc _) (some ⟨w2.heap.size + 1, 0, none⟩) 1 1 [.slice (some ⟨w2.heap.size, 0, none⟩) 0 0] (by rfl) (by rfl)
              (by have := RdC.new (w2.alloc (.cells #[] 5 (0, 0))) #[.slice (some ⟨w2.heap.size, 0, none⟩) 0 0] 22; simp only [size_alloc1] at this; exact this) (by simp [Value.oneCell']) (by omega) (by simp; omega) ?_
            intro v3 w3 hown3 hg3))
        have hbr : Below wr.heap.size wr w3 := hg3.below ((HG2.out.alloc HG2.out.size _).alloc (by have := HG2.out.size; simp; omega) _) (by have := HG2.out.size; simp; omega) (own_base HO2.out)
        have hr3 : RowsOf (· < w3.heap.size) w3 ([.slice none 0 0] ++ vs ++ [.slice (some ⟨w2.heap.size, 0, none⟩) 0 0]) ([[]] ++ ps ++ [[]]) :=
          RowsOf.append (RowsOf.append (rows_one (b := []) (RdC.nil _ _ _) (Nat.zero_le _) rfl) (HRws.out.toBelow hbr hbr.size)) (rows_one (b := []) (RdC.nil _ _ _) (Nat.zero_le _) rfl)
        have ho3 : w3.ownsRow w0.heap.size 22 1 v3 (2 * (t + 1) + 1) ([.slice none 0 0] ++ vs ++ [.slice (some ⟨w2.heap.size, 0, none⟩) 0 0]) := by
          rw [show 2 * (t + 1) + 1 = 1 + (2 * t + 1) + 1 by omega]
          exact own_lower hown3 hbw
        exact ⟨⟨t + 1, _, _, by omega, by go_num, by simp [HVl.out]; omega, by simp [HFl.out], ho3, hr3, HBe.out.trans (hbr.mono hbw)⟩, by simp [intOf]; omega⟩
      · obtain rfl : t = M := by omega
        have hpl : ps.length = 2 * t + 1 := by rw [← hrows.1, hvl]
        have hr1 := HR0.out.below hbel HR0.out.lt
        have hbw : w0.heap.size ≤ wr.heap.size := hbel.size
        have hd1 := digest_new wr [.slice B b.length cb] [b] 1 rfl hr1 (rows_one (HBb0.out.toBelow hbel hbel.size) hcb rfl) (by simp) (by simp; omega)
        rw [show ([b] : List Bs).flatten = b by simp] at hd1
        have HD1 := Lib.hid hd1
        have HOw := Lib.hid hown
        have HRws := Lib.hid hrows
        have HBe := Lib.hid hbel
        have HFl := Lib.hid hfl
        have HPl := Lib.hid hpl
        have HR1 := Lib.hid hr1
        clear hd1 hown hrows hbel hfl hpl hr1 hvl
        go_wp2_with fail
        refine HD1.out.mono ?_
        rintro e w2 ⟨rfl, hb2⟩
        have hr2 := HR1.out.below hb2 HR1.out.lt
        have hpa := (RdC.of_own (own_below HOw.out hb2)).mono (ok' := (· < w2.heap.size)) (fun k hk => hk.2)
        have hrow2 := HRws.out.toBelow hb2 hb2.size
        have hc2 := check_any w2 A1 c1 vs ps hr2 hpa hrow2 (by rw [HPl.out]; omega) (by rw [HFl.out]; omega)
        rw [HFl.out, HPl.out] at hc2
        have HC2 := Lib.hid hc2
        have HR2 := Lib.hid hr2
        have HPa := Lib.hid hpa
        have HRow2 := Lib.hid hrow2
        have HB2 := Lib.hid (HBe.out.trans (hb2.mono hbw))
        clear hb2 hr2 hpa hrow2 hc2
        go_wp2_with fail
        refine HC2.out.mono ?_
        rintro e w3 ⟨rfl, hb3⟩
        have hdl := sha_length b
        have hd3 := digest_any w3 A1 c1 vs ps (HR2.out.below hb3 HR2.out.lt) (HPa.out.step hb3) (HRow2.out.toBelow hb3 hb3.size) (by rw [HPl.out]; omega) (by rw [HFl.out]; omega)
        have hbw3 : Below w.heap.size w w3 := HB0.out.trans ((HB2.out.trans (hb3.mono HB2.out.size)).mono HB0.out.size)
        have hvw3 := HPa.out.step hb3
        have hrow3 := HRow2.out.toBelow hb3 hb3.size
        have hr3 := HR2.out.below hb3 HR2.out.lt
        generalize hD : sha b = D at *
        have h7 : ((w3.alloc (Obj.cells #[Value.int .u8 0, Value.int .u8 0, Value.int .u8 0, Value.int .u8 0, Value.int .u8 0, Value.int .u8 0, Value.int .u8 0, Value.int .u8 0, Value.int .u8 0, Value.int .u8 0, Value.int .u8 0, Value.int .u8 0, Value.int .u8 0, Value.int .u8 0, Value.int .u8 0, Value.int .u8 0, Value.int .u8 0, Value.int .u8 0, Value.int .u8 0, Value.int .u8 0, Value.int .u8 0, Value.int .u8 0, Value.int .u8 0, Value.int .u8 0, Value.int .u8 0, Value.int .u8 0, Value.int .u8 0, Value.int .u8 0, Value.int .u8 0, Value.int .u8 0, Value.int .u8 0, Value.int .u8 0] 27 (0, 0))).alloc (Obj.cells #[Value.int .u8 0, Value.int .u8 0, Value.int .u8 0, Value.int .u8 0] 37 (0, 0))).heap[w3.heap.size]? = some (Obj.cells #[Value.int .u8 0, Value.int .u8 0, Value.int .u8 0, Value.int .u8 0, Value.int .u8 0, Value.int .u8 0, Value.int .u8 0, Value.int .u8 0, Value.int .u8 0, Value.int .u8 0, Value.int .u8 0, Value.int .u8 0, Value.int .u8 0, Value.int .u8 0, Value.int .u8 0, Value.int .u8 0, Value.int .u8 0, Value.int .u8 0, Value.int .u8 0, Value.int .u8 0, Value.int .u8 0, Value.int .u8 0, Value.int .u8 0, Value.int .u8 0, Value.int .u8 0, Value.int .u8 0, Value.int .u8 0, Value.int .u8 0, Value.int .u8 0, Value.int .u8 0, Value.int .u8 0, Value.int .u8 0] 27 (0, 0)) := heap_alloc2_old _ _ _
        have h8 : (((w3.alloc (Obj.cells #[Value.int .u8 0, Value.int .u8 0, Value.int .u8 0, Value.int .u8 0, Value.int .u8 0, Value.int .u8 0, Value.int .u8 0, Value.int .u8 0, Value.int .u8 0, Value.int .u8 0, Value.int .u8 0, Value.int .u8 0, Value.int .u8 0, Value.int .u8 0, Value.int .u8 0, Value.int .u8 0, Value.int .u8 0, Value.int .u8 0, Value.int .u8 0, Value.int .u8 0, Value.int .u8 0, Value.int .u8 0, Value.int .u8 0, Value.int .u8 0, Value.int .u8 0, Value.int .u8 0, Value.int .u8 0, Value.int .u8 0, Value.int .u8 0, Value.int .u8 0, Value.int .u8 0, Value.int .u8 0] 27 (0, 0))).alloc (Obj.cells #[Value.int .u8 0, Value.int .u8 0, Value.int .u8 0, Value.int .u8 0] 37 (0, 0))).setRow w3.heap.size (bvs D).toArray).heap[w3.heap.size + 1]? = some (Obj.cells #[Value.int .u8 0, Value.int .u8 0, Value.int .u8 0, Value.int .u8 0] 37 (0, 0)) := (setRow_other _ _ _ _ (by omega)).trans (heap_alloc2_new _ _ _)
        have hs7 : (#[Value.int .u8 0, Value.int .u8 0, Value.int .u8 0, Value.int .u8 0, Value.int .u8 0, Value.int .u8 0, Value.int .u8 0, Value.int .u8 0, Value.int .u8 0, Value.int .u8 0, Value.int .u8 0, Value.int .u8 0, Value.int .u8 0, Value.int .u8 0, Value.int .u8 0, Value.int .u8 0, Value.int .u8 0, Value.int .u8 0, Value.int .u8 0, Value.int .u8 0, Value.int .u8 0, Value.int .u8 0, Value.int .u8 0, Value.int .u8 0, Value.int .u8 0, Value.int .u8 0, Value.int .u8 0, Value.int .u8 0, Value.int .u8 0, Value.int .u8 0, Value.int .u8 0, Value.int .u8 0]).size = ((bvs D).toArray).size := by simp [hdl]
        have hs8 : (#[Value.int .u8 0, Value.int .u8 0, Value.int .u8 0, Value.int .u8 0]).size = ((bvs (D.take 4)).toArray).size := by simp [hdl]
        have hi32 : (Tryd.prog.info? 27).map (·.size) = some ((bvs D).toArray).size := by rw [info32]; simp [hdl]
        have hi4 : (Tryd.prog.info? 37).map (·.size) = some ((bvs (D.take 4)).toArray).size := by
          rw [show ((bvs (D.take 4)).toArray).size = 4 by simp [hdl]]
          kernel_rfl
        obtain ⟨w4, hw4⟩ : ∃ x, x = ((((w3.alloc (Obj.cells #[Value.int .u8 0, Value.int .u8 0, Value.int .u8 0, Value.int .u8 0, Value.int .u8 0, Value.int .u8 0, Value.int .u8 0, Value.int .u8 0, Value.int .u8 0, Value.int .u8 0, Value.int .u8 0, Value.int .u8 0, Value.int .u8 0, Value.int .u8 0, Value.int .u8 0, Value.int .u8 0, Value.int .u8 0, Value.int .u8 0, Value.int .u8 0, Value.int .u8 0, Value.int .u8 0, Value.int .u8 0, Value.int .u8 0, Value.int .u8 0, Value.int .u8 0, Value.int .u8 0, Value.int .u8 0, Value.int .u8 0, Value.int .u8 0, Value.int .u8 0, Value.int .u8 0, Value.int .u8 0] 27 (0, 0))).alloc (Obj.cells #[Value.int .u8 0, Value.int .u8 0, Value.int .u8 0, Value.int .u8 0] 37 (0, 0))).setRow w3.heap.size (bvs D).toArray).setRow (w3.heap.size + 1) (bvs (D.take 4)).toArray) := ⟨_, rfl⟩
        have g1 : BArr w4 w3.heap.size 27 D := by rw [hw4]; exact (setRow_other _ _ _ _ (by omega)).trans (setRow_heap _ _ _ _ _ _ h7)
        have g2 : BArr w4 (w3.heap.size + 1) 37 (D.take 4) := by rw [hw4]; exact setRow_heap _ _ _ _ _ _ h8
        have g3 : Below w3.heap.size w3 w4 := by rw [hw4]; exact below_setRow (below_setRow (((Below.refl _ _).alloc (Nat.le_refl _) _).alloc (by simp) _) (by omega) _) (by omega) _
        have hd5 : Calls Tryd.prog 18 #[.slice A1 (2 * t + 1) c1] w4.drew (fun e w' => e = .returned (.agg (bvs D).toArray) ∧ Below w4.heap.size w4 w') := by
          have := digest_any w4.drew A1 c1 vs ps ((hr3.below g3 hr3.lt).below (Below.refl _ _).drew (hr3.below g3 hr3.lt).lt) ((hvw3.step g3).step (Below.refl _ _).drew) ((hrow3.toBelow g3 g3.size).toBelow (Below.refl _ _).drew (Nat.le_refl _)) (by rw [HPl.out]; omega) (by rw [HFl.out]; omega)
          rw [HFl.out, HPl.out] at this
          unfold DigestP at this
          rw [hD] at this
          exact this.mono fun e w' h => ⟨h.1, (Below.refl _ _).drew.trans h.2⟩
        have heq := fun W => eql_bytes Tryd.underlying27 D D hdl hdl W
        simp only [beq_self_eq_true] at heq
        have HW4 := Lib.hid hw4
        have H7 := Lib.hid h7
        have H8 := Lib.hid h8
        have HS7 := Lib.hid hs7
        have HS8 := Lib.hid hs8
        have HI32 := Lib.hid hi32
        have HI4 := Lib.hid hi4
        have G1 := Lib.hid g1
        have G2 := Lib.hid g2
        have HB4 := Lib.hid (hbw3.trans (g3.mono hbw3.size))
        have HD5 := Lib.hid hd5
        have HO1 := Lib.hid (bv_one D)
        have HO4 := Lib.hid (bv_one (D.take 4))
        have HDl := Lib.hid hdl
        have hlt3 : w3.heap.size + 1 < w4.heap.size := g2.lt
        have hbw4 : w.heap.size ≤ w4.heap.size := Nat.le_trans hbw3.size g3.size
        clear hdl hd3 hbw3 hvw3 hrow3 hr3 hD h7 h8 hs7 hs8 hi32 hi4 hw4 g1 g2 g3 hd5 hb3
        go_wp2_with (first
          | (with_reducible refine wpList_store_all (op := ⟨none, .store 27 (.tmp 6) _, _, _, _, _⟩) rfl 27 _ _ rfl w3.heap.size _ (bvs D).toArray _ rfl rfl H7.out HS7.out HI32.out (by simpa using HO1.out) ?_)
          | (with_reducible refine wpList_store_all (op := ⟨none, .store 37 (.tmp 7) _, _, _, _, _⟩) rfl 37 _ _ rfl (w3.heap.size + 1) _ (bvs (D.take 4)).toArray _ rfl rfl H8.out HS8.out HI4.out (by simpa using HO4.out) ?_))
        rw [← HW4.out]
        have hu := Tryd.underlying27
        have hi : (Tryd.prog.info? 27).map (·.size) = some (bvs D).length := by simpa using HI32.out
        have hl32 : (bvs D).length = 32 := by rw [bvs_length, HDl.out]
        have ks : ∀ w', Below w4.heap.size w4 w' → w'.rangeAt w3.heap.size 0 (bvs D) ∧ (convert 22 9 (.slice (some ⟨w3.heap.size + 1, 0, none⟩) 4 4)).run Tryd.prog w' = .ok (.string ⟨(D.take 4).toArray⟩) w' ∧ (convert 22 9 (.slice (some ⟨w3.heap.size, 0, none⟩) 4 32)).run Tryd.prog w' = .ok (.string ⟨(D.take 4).toArray⟩) w' := fun w' hb => by
          refine ⟨(G1.out.move (hb.block _ (by omega))).range, ?_, ?_⟩
          · exact run_str_of Tryd.underlying22 Tryd.underlying5 Tryd.underlying9 (show 4 = (D.take 4).length by rw [List.length_take, HDl.out]; rfl) (G2.out.move (hb.block _ (by omega))).reads
          · exact run_str_of Tryd.underlying22 Tryd.underlying5 Tryd.underlying9 (show 4 = (D.take 4).length by rw [List.length_take, HDl.out]; rfl) (by rw [bvs_take]; exact ((G1.out.move (hb.block _ (by omega))).reads.take 4))
        have KS := Lib.hid ks
        clear ks
        go_region_held3 (fun w' => w'.rangeAt w3.heap.size 0 (bvs D) ∧ (convert 22 9 (.slice (some ⟨w3.heap.size + 1, 0, none⟩) 4 4)).run Tryd.prog w' = .ok (.string ⟨(D.take 4).toArray⟩) w' ∧ (convert 22 9 (.slice (some ⟨w3.heap.size, 0, none⟩) 4 32)).run Tryd.prog w' = .ok (.string ⟨(D.take 4).toArray⟩) w')
          (first
            | exact KS.out _ (Below.refl _ _)
            | exact KS.out _ (Below.refl _ _).drew
            | exact KS.out _ hb5)
          ((go_at_call 18; refine HD5.out.mono ?_; rintro e w5 ⟨rfl, hb5⟩))
        all_goals (
          have HB5 := Lib.hid (HB4.out.trans (hb5.mono hbw4))
          clear hb5
          go_wp2_with fail
          go_ret
          exact ⟨rfl, HB5.out⟩)
  · have t1 : (5000 : Int) < (b.length : Int) := by omega
    go_enter Tryd.func8, Tryd.ntmps8
    go_wp2_with fail
    refine (alive_any w HRo.out).mono ?_
    rintro e w0 ⟨rfl, hb0⟩
    have HB0 := Lib.hid hb0
    clear hb0
    go_wp2_with fail
    go_ret
    exact ⟨rfl, HB0.out⟩
end Go.Proofs.YtlhoicbgahnagaaDoor
