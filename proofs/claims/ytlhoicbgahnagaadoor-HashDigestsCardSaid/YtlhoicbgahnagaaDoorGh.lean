/- Walk of the statement HashDigests. -/
import Derived.Test.YtlhoicbgahnagaaDoorGf
set_option linter.unusedVariables false
set_option linter.unusedSimpArgs false
set_option linter.unnecessarySimpa false
namespace Go.Proofs.YtlhoicbgahnagaaDoor
open Go.RowKit

/-- Copies with marked room behind, none of them in block X. -/
def Copies (w : World) (B : Nat) (X : Option Nat) (us : List Value) (ps : List Bs) : Prop :=
  us.length = ps.length ∧ ∀ i (h : i < ps.length), ∃ A c, us[i]? = some (.slice A ps[i].length c) ∧ ps[i].length + 6 ≤ c ∧ RdC (fun b => B ≤ b ∧ b < w.heap.size ∧ some b ≠ X) w A (bvs (ps[i] ++ marks))
theorem Copies.nil (w : World) (B : Nat) (X : Option Nat) : Copies w B X [] [] := ⟨rfl, fun i h => by simp at h⟩
theorem Copies.snoc {w : World} {B : Nat} {X : Option Nat} {us : List Value} {ps : List Bs} (h : Copies w B X us ps) {A : Option Addr} {c : Nat} {p : Bs} (hc : p.length + 6 ≤ c) (hR : RdC (fun b => B ≤ b ∧ b < w.heap.size ∧ some b ≠ X) w A (bvs (p ++ marks))) : Copies w B X (us ++ [.slice A p.length c]) (ps ++ [p]) := by
  refine ⟨by simp [h.1], fun i hi => ?_⟩
  rcases Nat.lt_or_ge i ps.length with hl | hl
  · obtain ⟨A', c', h1, h2, h3⟩ := h.2 i hl
    rw [List.getElem_append_left hl, List.getElem?_append_left (by rw [h.1]; exact hl)]
    exact ⟨A', c', h1, h2, h3⟩
  · obtain rfl : i = ps.length := by simp at hi; omega
    refine ⟨A, c, ?_, ?_, ?_⟩
    · rw [List.getElem?_append_right (by rw [h.1]; exact Nat.le_refl _), h.1]
      simp
    · simpa using hc
    · simpa using hR
theorem Copies.move {w w' : World} {B : Nat} {X X' : Option Nat} {us : List Value} {ps : List Bs} (h : Copies w B X us ps) (hm : ∀ b, B ≤ b → b < w.heap.size → some b ≠ X → w'.heap[b]? = w.heap[b]? ∧ b < w'.heap.size ∧ some b ≠ X') : Copies w' B X' us ps :=
  ⟨h.1, fun i hi => by
    obtain ⟨A, c, h1, h2, h3⟩ := h.2 i hi
    exact ⟨A, c, h1, h2, (h3.move (w' := w') fun b hb => (hm b hb.1 hb.2.1 hb.2.2).1).mono fun b hb => ⟨hb.1, (hm b hb.1 hb.2.1 hb.2.2).2⟩⟩⟩
theorem Copies.rows {w : World} {B : Nat} {X : Option Nat} {us : List Value} {ps : List Bs} (h : Copies w B X us ps) : RowsOf (· < w.heap.size) w us ps :=
  ⟨h.1, fun i hi => by
    obtain ⟨A, c, h1, h2, h3⟩ := h.2 i hi
    exact ⟨A, c, h1, (h3.bytesFront).mono fun b hb => hb.2.1, by omega⟩⟩
theorem len_flatten {ps : List Bs} {p : Bs} (h : p ∈ ps) : p.length ≤ ps.flatten.length := by
  induction ps with
  | nil => cases h
  | cons q ps ih =>
    rw [List.flatten_cons, List.length_append]
    rcases List.mem_cons.1 h with rfl | h
    · omega
    · have := ih h; omega
set_option maxRecDepth 8000 in
set_option maxHeartbeats 4000000 in
theorem digests_walk (w : World) (PA : Option Addr) (pc : Nat) (vs : List Value) (ps : List Bs) (hRo : RoundAt w) (hP : RdC (· < w.heap.size) w PA vs) (hV : RowsOf (· < w.heap.size) w vs ps)
    (hm : ∀ p ∈ ps, p.length ≤ 9223372036854775807) (hk : ps.length ≤ 9223372036854775807) (hpc : ps.length ≤ pc) :
    Calls Tryd.prog 6 #[.slice PA ps.length pc] w (OkPost w) := by
  obtain ⟨i0, hi, hz0, hz1, hz2⟩ := info_parts infoRow
  have HRo := Lib.hid hRo
  have HP := Lib.hid hP
  have HV := Lib.hid hV
  have HM := Lib.hid hm
  clear hRo hP hV hm
  go_enter Tryd.func6, Tryd.ntmps6
  go_wp2_with fail
  refine (alive_any w HRo.out).mono ?_
  rintro e w0 ⟨rfl, hb0⟩
  have HB0 := Lib.hid hb0
  have HP0 := Lib.hid (HP.out.step hb0)
  have HV0 := Lib.hid (HV.out.toBelow hb0 hb0.size)
  have HR0 := Lib.hid (HRo.out.below hb0 HRo.out.lt)
  clear hb0
  go_wp2_with fail
  refine (few_any w0 PA pc vs ps HP0.out HV0.out HM.out hk).mono ?_
  rintro e w0' ⟨few, rfl, hfew, rfl⟩
  cases few with
  | false =>
    clear hfew
    go_wp2_with fail
    go_ret
    exact ⟨rfl, HB0.out⟩
  | true =>
    obtain ⟨hp1, hp2⟩ := weigh_le (hfew rfl)
    clear hfew
    have hzr := World.ownsRow_lit (base := w0.heap.size) (e := 22) (size := 1) w0 #[] 0 (Nat.le_refl _) (by simp [maxLen]) (by simp)
    have HZ := Lib.hid hzr
    clear hzr
    go_wp2_with fail
    go_loopw [19, 3] (fun i v wq => ∃ (t : Nat) (us : List Value), t ≤ ps.length ∧ i = .int .i64 t ∧ wq.ownsRow w0.heap.size 22 1 v t us ∧ Copies wq w0.heap.size v.ownBlock us (ps.take t) ∧ Below w0.heap.size w0 wq) (fun i _ _ => ps.length - (intOf i).toNat)
    case atStart => exact ⟨0, [], Nat.zero_le _, rfl, HZ.out, by rw [List.take_zero]; exact Copies.nil _ _ _, (Below.refl _ _).alloc (Nat.le_refl _) _⟩
    case round =>
      obtain ⟨t, us, ht, rfl, hown, hcp, hbel⟩ := hrel
      have HOw := Lib.hid hown
      have HCp := Lib.hid hcp
      have HBe := Lib.hid hbel
      have hbw : w0.heap.size ≤ wr.heap.size := hbel.size
      clear hown hcp hbel
      by_cases hlt : t < ps.length
      · obtain ⟨A, c, hv1, hv2, hv3⟩ := HV0.out.2 t hlt
        obtain ⟨ad, rfl, hok, hc⟩ := HP0.out (by intro e; rw [e] at hv1; simp at hv1)
        have c1 : wr.cell? (ad.add t) = some (.slice A ps[t].length c) := (World.cell?_of_block (by rw [add_block]; exact HBe.out.block _ hok)).trans (hc t _ hv1)
        have htk : ps.take (t + 1) = ps.take t ++ [ps[t]] := by rw [List.take_succ_eq_append_getElem hlt]
        have hpl : ps[t].length ≤ 20000 := Nat.le_trans (len_flatten (List.getElem_mem hlt)) hp2
        generalize hx : ps[t] = x at *
        have j0 : (0 : Int) ≤ (t : Int) := by omega
        have j1 : (t : Int) < (ps.length : Int) := by omega
        have HTk := Lib.hid htk
        have HX := Lib.hid (hv2.toBelow HBe.out hbw)
        clear htk hv1 hv2 hc hx
        go_wp2_with fail
        refine (bytes_any wr A x.length c x rfl (by omega) HX.out).mono ?_
        rintro e w2 ⟨hb2, A2, c2, rfl, hc2, hc2m, hr2⟩
        have hw2 : wr.heap.size ≤ w2.heap.size := hb2.size
        have hlt2 := HOw.out.lt
        have HO2 := Lib.hid (own_below HOw.out hb2)
        have HB2 := Lib.hid (HBe.out.trans (hb2.mono hbw))
        have HC2 := Lib.hid ((HCp.out.move (w' := w2) (X' := u3.ownBlock) (fun b h1 h2 h3 => ⟨hb2.block b h2, Nat.lt_of_lt_of_le h2 hw2, h3⟩)).snoc hc2 (hr2.mono fun b hb => ⟨Nat.le_trans hbw hb.1, hb.2, fun e => by have := (hlt2 b e.symm).2; omega⟩))
        clear hb2 hr2 hlt2
        go_wp2_with (
          at_builtin
          refine wpList_app1 w0.heap.size (.tmp 23) (.tmp 26) 23 22 i0 (.slice none 0 0) 24 rfl (by rfl) Tryd.underlying23 hi hz0 hz1 hz2 (by rfl) (by omega) _ t us (.slice A2 x.length c2) (by rfl) w2.heap.size rfl (by rfl) HO2.out rfl (by omega) (by omega) ?_
          intro v3 w3 hown3 hg3
          have HB3 := Lib.hid (hg3.below HB2.out (by omega) (own_base HO2.out))
          have HO3 := Lib.hid hown3
          have HC3 := Lib.hid (HC2.out.move (w' := w3) (X' := v3.ownBlock) (fun b h1 h2 h3 => ⟨hg3.by_.block b h2 h3, Nat.lt_of_lt_of_le h2 hg3.by_.size, fun e => by
            rcases hg3.at_ with h | ⟨k, h, hk⟩
            · exact h3 (e.trans h)
            · rw [h] at e
              injection e with e
              omega⟩))
          clear hown3 hg3)
        refine ⟨⟨t + 1, _, by omega, by go_num, HO3.out, by rw [HTk.out]; exact HC3.out, HB3.out⟩, by simp [intOf]; omega⟩
      · obtain rfl : t = ps.length := by omega
        have hcp := HCp.out
        rw [List.take_length] at hcp
        obtain ⟨A1, c1, rfl, _, _⟩ := own_slice HOw.out
        have hus : us.length = ps.length := hcp.1
        have hr1 := HR0.out.below HBe.out HR0.out.lt
        have hpa := (RdC.of_own HOw.out).mono (ok' := (· < wr.heap.size)) (fun k hk => hk.2)
        have hd1 := digest_any wr A1 c1 us ps hr1 hpa hcp.rows (by omega) (by omega)
        have HD1 := Lib.hid hd1
        have HR1 := Lib.hid hr1
        have HPa := Lib.hid hpa
        have HC1 := Lib.hid hcp
        clear hd1 hr1 hpa hcp HCp
        go_wp2_with fail
        refine HD1.out.mono ?_
        rintro e w2 ⟨rfl, hb2⟩
        have hr2 := HR1.out.below hb2 HR1.out.lt
        have hc2 := check_any w2 A1 c1 us ps hr2 (HPa.out.step hb2) (HC1.out.rows.toBelow hb2 hb2.size) (by omega) (by omega)
        have HC2 := Lib.hid hc2
        have HB2 := Lib.hid hb2
        clear hb2 hr2 hc2
        go_wp2_with fail
        refine HC2.out.mono ?_
        rintro e w3 ⟨rfl, hb3⟩
        have hdl := sha_length ps.flatten
        generalize hD : sha ps.flatten = D at *
        have hb13 : Below wr.heap.size wr w3 := below_on HB2.out hb3
        have h7 : ((w3.alloc (Obj.cells #[Value.int .u8 0, Value.int .u8 0, Value.int .u8 0, Value.int .u8 0, Value.int .u8 0, Value.int .u8 0, Value.int .u8 0, Value.int .u8 0, Value.int .u8 0, Value.int .u8 0, Value.int .u8 0, Value.int .u8 0, Value.int .u8 0, Value.int .u8 0, Value.int .u8 0, Value.int .u8 0, Value.int .u8 0, Value.int .u8 0, Value.int .u8 0, Value.int .u8 0, Value.int .u8 0, Value.int .u8 0, Value.int .u8 0, Value.int .u8 0, Value.int .u8 0, Value.int .u8 0, Value.int .u8 0, Value.int .u8 0, Value.int .u8 0, Value.int .u8 0, Value.int .u8 0, Value.int .u8 0] 27 (0, 0))).alloc (Obj.cells #[Value.int .u8 0, Value.int .u8 0, Value.int .u8 0, Value.int .u8 0] 37 (0, 0))).heap[w3.heap.size]? = some (Obj.cells #[Value.int .u8 0, Value.int .u8 0, Value.int .u8 0, Value.int .u8 0, Value.int .u8 0, Value.int .u8 0, Value.int .u8 0, Value.int .u8 0, Value.int .u8 0, Value.int .u8 0, Value.int .u8 0, Value.int .u8 0, Value.int .u8 0, Value.int .u8 0, Value.int .u8 0, Value.int .u8 0, Value.int .u8 0, Value.int .u8 0, Value.int .u8 0, Value.int .u8 0, Value.int .u8 0, Value.int .u8 0, Value.int .u8 0, Value.int .u8 0, Value.int .u8 0, Value.int .u8 0, Value.int .u8 0, Value.int .u8 0, Value.int .u8 0, Value.int .u8 0, Value.int .u8 0, Value.int .u8 0] 27 (0, 0)) := heap_alloc2_old _ _ _
        have h8 : (((w3.alloc (Obj.cells #[Value.int .u8 0, Value.int .u8 0, Value.int .u8 0, Value.int .u8 0, Value.int .u8 0, Value.int .u8 0, Value.int .u8 0, Value.int .u8 0, Value.int .u8 0, Value.int .u8 0, Value.int .u8 0, Value.int .u8 0, Value.int .u8 0, Value.int .u8 0, Value.int .u8 0, Value.int .u8 0, Value.int .u8 0, Value.int .u8 0, Value.int .u8 0, Value.int .u8 0, Value.int .u8 0, Value.int .u8 0, Value.int .u8 0, Value.int .u8 0, Value.int .u8 0, Value.int .u8 0, Value.int .u8 0, Value.int .u8 0, Value.int .u8 0, Value.int .u8 0, Value.int .u8 0, Value.int .u8 0] 27 (0, 0))).alloc (Obj.cells #[Value.int .u8 0, Value.int .u8 0, Value.int .u8 0, Value.int .u8 0] 37 (0, 0))).setRow w3.heap.size (bvs D).toArray).heap[w3.heap.size + 1]? = some (Obj.cells #[Value.int .u8 0, Value.int .u8 0, Value.int .u8 0, Value.int .u8 0] 37 (0, 0)) := (setRow_other _ _ _ _ (by omega)).trans (heap_alloc2_new _ _ _)
        have hs7 : (#[Value.int .u8 0, Value.int .u8 0, Value.int .u8 0, Value.int .u8 0, Value.int .u8 0, Value.int .u8 0, Value.int .u8 0, Value.int .u8 0, Value.int .u8 0, Value.int .u8 0, Value.int .u8 0, Value.int .u8 0, Value.int .u8 0, Value.int .u8 0, Value.int .u8 0, Value.int .u8 0, Value.int .u8 0, Value.int .u8 0, Value.int .u8 0, Value.int .u8 0, Value.int .u8 0, Value.int .u8 0, Value.int .u8 0, Value.int .u8 0, Value.int .u8 0, Value.int .u8 0, Value.int .u8 0, Value.int .u8 0, Value.int .u8 0, Value.int .u8 0, Value.int .u8 0, Value.int .u8 0]).size = ((bvs D).toArray).size := by simp [hdl]
        have hs8 : (#[Value.int .u8 0, Value.int .u8 0, Value.int .u8 0, Value.int .u8 0]).size = ((bvs (D.take 4)).toArray).size := by simp [hdl]
        have hi32 : (Tryd.prog.info? 27).map (·.size) = some ((bvs D).toArray).size := by rw [info32]; simp [hdl]
        have hi4 : (Tryd.prog.info? 37).map (·.size) = some ((bvs (D.take 4)).toArray).size := by
          rw [show ((bvs (D.take 4)).toArray).size = 4 by simp [hdl]]
          kernel_rfl
        obtain ⟨w4, hw4⟩ : ∃ x, x = ((((w3.alloc (Obj.cells #[Value.int .u8 0, Value.int .u8 0, Value.int .u8 0, Value.int .u8 0, Value.int .u8 0, Value.int .u8 0, Value.int .u8 0, Value.int .u8 0, Value.int .u8 0, Value.int .u8 0, Value.int .u8 0, Value.int .u8 0, Value.int .u8 0, Value.int .u8 0, Value.int .u8 0, Value.int .u8 0, Value.int .u8 0, Value.int .u8 0, Value.int .u8 0, Value.int .u8 0, Value.int .u8 0, Value.int .u8 0, Value.int .u8 0, Value.int .u8 0, Value.int .u8 0, Value.int .u8 0, Value.int .u8 0, Value.int .u8 0, Value.int .u8 0, Value.int .u8 0, Value.int .u8 0, Value.int .u8 0] 27 (0, 0))).alloc (Obj.cells #[Value.int .u8 0, Value.int .u8 0, Value.int .u8 0, Value.int .u8 0] 37 (0, 0))).setRow w3.heap.size (bvs D).toArray).setRow (w3.heap.size + 1) (bvs (D.take 4)).toArray) := ⟨_, rfl⟩
        have g1 : BArr w4 w3.heap.size 27 D := by rw [hw4]; exact (setRow_other _ _ _ _ (by omega)).trans (setRow_heap _ _ _ _ _ _ h7)
        have g2 : BArr w4 (w3.heap.size + 1) 37 (D.take 4) := by rw [hw4]; exact setRow_heap _ _ _ _ _ _ h8
        have g3 : Below w3.heap.size w3 w4 := by rw [hw4]; exact below_setRow (below_setRow (((Below.refl _ _).alloc (Nat.le_refl _) _).alloc (by simp) _) (by omega) _) (by omega) _
        have HW4 := Lib.hid hw4
        have H7 := Lib.hid h7
        have H8 := Lib.hid h8
        have HS7 := Lib.hid hs7
        have HS8 := Lib.hid hs8
        have HI32 := Lib.hid hi32
        have HI4 := Lib.hid hi4
        have HO1 := Lib.hid (bv_one D)
        have HO4 := Lib.hid (bv_one (D.take 4))
        have HDl := Lib.hid hdl
        have HD := Lib.hid hD
        have HG1 := Lib.hid g1
        have HG2 := Lib.hid g2
        have HB4 := Lib.hid (below_on hb13 g3)
        have hlt4 : w3.heap.size + 1 < w4.heap.size := g2.lt
        clear hdl hD h7 h8 hs7 hs8 hi32 hi4 hw4 g1 g2 g3 hb3 hb13
        go_wp2_with (first
          | (with_reducible refine wpList_store_all (op := ⟨none, .store 27 (.tmp 6) _, _, _, _, _⟩) rfl 27 _ _ rfl w3.heap.size _ (bvs D).toArray _ rfl rfl H7.out HS7.out HI32.out (by simpa using HO1.out) ?_)
          | (with_reducible refine wpList_store_all (op := ⟨none, .store 37 (.tmp 7) _, _, _, _, _⟩) rfl 37 _ _ rfl (w3.heap.size + 1) _ (bvs (D.take 4)).toArray _ rfl rfl H8.out HS8.out HI4.out (by simpa using HO4.out) ?_))
        rw [← HW4.out]
        generalize w3.heap.size = g at *
        clear H7 H8 HW4
        refine (new_any w4).mono ?_
        rintro e w5 ⟨Hn, va, vb, rfl, hT, hbn⟩
        have hb15 := HBe.out.trans ((below_on HB4.out hbn).mono hbw)
        have HJ := Lib.hid (join_any w5 PA pc vs ps (HP0.out.toBelow hb15 hb15.size) (HV0.out.toBelow hb15 hb15.size) (by omega) (by omega))
        have HT := Lib.hid hT
        have HB5 := Lib.hid (below_on HB4.out hbn)
        have HG15 := Lib.hid (HG1.out.move (hbn.block _ (by omega)))
        have HG25 := Lib.hid (HG2.out.move (hbn.block _ (by omega)))
        have hlt5 : g + 1 < w5.heap.size := Nat.lt_of_lt_of_le hlt4 hbn.size
        clear hT hbn hb15
        go_wp2_with fail
        refine HJ.out.mono ?_
        rintro e w6 ⟨vj, rfl, hoj, hbj⟩
        obtain ⟨AJ, cj, rfl, _, _⟩ := own_slice hoj
        have hrd := rdigest_any w6 Hn va vb _ AJ cj ps.flatten (HT.out.below hbj) ((RdC.of_own hoj).mono (ok' := (· < w6.heap.size)) (fun _ h => h.2)) (by omega)
        have HRd := Lib.hid hrd
        have HB6 := Lib.hid (below_on HB5.out hbj)
        have HG16 := Lib.hid (HG15.out.move (hbj.block _ (by omega)))
        have HG26 := Lib.hid (HG25.out.move (hbj.block _ (by omega)))
        have hlt6 : g + 1 < w6.heap.size := Nat.lt_of_lt_of_le hlt5 hbj.size
        have hfl : ps.flatten.length = (List.map List.length ps).sum := by simp
        have HFl := Lib.hid hfl
        clear hrd hoj hbj hfl
        go_wp2_with fail
        rw [← HFl.out]
        refine HRd.out.mono ?_
        rintro e w7 ⟨v7, rfl, ho7, hb7⟩
        rw [HD.out] at ho7
        obtain ⟨A7, c7, rfl, hc7, _⟩ := own_slice ho7
        have HR7 := Lib.hid ((RdC.of_own ho7).mono (ok' := (· < w7.heap.size)) fun _ h => h.2)
        have HB7 := Lib.hid (below_on HB6.out hb7)
        have HG17 := Lib.hid (HG16.out.move (hb7.block _ (by omega)))
        have HG27 := Lib.hid (HG26.out.move (hb7.block _ (by omega)))
        have hlt7 : g + 1 < w7.heap.size := Nat.lt_of_lt_of_le hlt6 hb7.size
        clear ho7 hb7
        go_wp2_with fail
        go_loopw [39] (fun i wq => ∃ t : Nat, t ≤ ps.length ∧ i = .int .i64 t ∧ Below w7.heap.size w7 wq) (fun i _ => ps.length - (intOf i).toNat)
        case atStart => exact ⟨0, Nat.zero_le _, rfl, Below.refl _ _⟩
        case round =>
          obtain ⟨t, ht, rfl, hbel⟩ := hrel
          have HBq := Lib.hid hbel
          clear hbel
          by_cases hlt : t < ps.length
          · have hb1q := below_on HB7.out HBq.out
            have hb0q := HBe.out.trans (hb1q.mono hbw)
            obtain ⟨A, c, hv1, hv2, hv3⟩ := HV0.out.2 t hlt
            obtain ⟨ad, rfl, hok, hc⟩ := HP0.out (by intro e; rw [e] at hv1; simp at hv1)
            obtain ⟨A8, c8, hu1, hu2, hu3⟩ := HC1.out.2 t hlt
            obtain ⟨ad1, rfl, hok1, hcc⟩ := HPa.out (by intro e; rw [e] at hu1; simp at hu1)
            have c1 : wr.cell? (ad.add t) = some (.slice A ps[t].length c) := (World.cell?_of_block (by rw [add_block]; exact hb0q.block _ hok)).trans (hc t _ hv1)
            have c2 : wr.cell? (ad1.add t) = some (.slice A8 ps[t].length c8) := (World.cell?_of_block (by rw [add_block]; exact hb1q.block _ hok1)).trans (hcc t _ hu1)
            have hpl : ps[t].length ≤ 20000 := Nat.le_trans (len_flatten (List.getElem_mem hlt)) hp2
            have hkp := kept_any wr A8 A ps[t].length c8 c ps[t] rfl (by omega) hu2 ((hu3.mono (fun _ h => h.2.1)).toBelow hb1q hb1q.size) (hv2.toBelow hb0q hb0q.size)
            generalize ps[t] = x at *
            have j0 : (0 : Int) ≤ (t : Int) := by omega
            have j1 : (t : Int) < (ps.length : Int) := by omega
            have HKp := Lib.hid hkp
            clear hkp hv1 hv2 hc hu1 hu3 hcc hb1q hb0q
            go_wp2_with fail
            refine HKp.out.mono ?_
            rintro e w8 ⟨rfl, hb8⟩
            have HB8 := Lib.hid (below_on HBq.out hb8)
            clear hb8
            go_wp2_with fail
            refine ⟨⟨t + 1, by omega, by go_num, HB8.out⟩, by simp [intOf]; omega⟩
          · obtain rfl : t = ps.length := by omega
            have hb1q := below_on HB7.out HBq.out
            have g1 := HG17.out.move (HBq.out.block _ (by omega))
            have g2 := HG27.out.move (HBq.out.block _ hlt7)
            have hr7 := HR7.out.step HBq.out
            have f1 : ∀ k, (convert 22 9 (.slice (some ⟨g, 0, none⟩) 32 32)).run Tryd.prog (wr.drewN k) = .ok (.string ⟨D.toArray⟩) (wr.drewN k) := fun k =>
              run_str_of Tryd.underlying22 Tryd.underlying5 Tryd.underlying9 HDl.out.symm (g1.reads.move (w' := wr.drewN k) (fun _ _ => rfl))
            have f2 : ∀ k, (convert 22 9 (.slice A7 32 c7)).run Tryd.prog (wr.drewN k) = .ok (.string ⟨D.toArray⟩) (wr.drewN k) := fun k =>
              run_str_of Tryd.underlying22 Tryd.underlying5 Tryd.underlying9 HDl.out.symm (hr7.move (w' := wr.drewN k) (fun _ _ => rfl))
            have f3 : ∀ k, (convert 22 9 (.slice (some ⟨g + 1, 0, none⟩) 4 4)).run Tryd.prog (wr.drewN k) = .ok (.string ⟨(D.take 4).toArray⟩) (wr.drewN k) := fun k =>
              run_str_of Tryd.underlying22 Tryd.underlying5 Tryd.underlying9 (show 4 = (D.take 4).length by rw [List.length_take, HDl.out]; rfl) (g2.reads.move (w' := wr.drewN k) (fun _ _ => rfl))
            have f4 : ∀ k, (convert 22 9 (.slice A7 4 c7)).run Tryd.prog (wr.drewN k) = .ok (.string ⟨(D.take 4).toArray⟩) (wr.drewN k) := fun k =>
              run_str_of Tryd.underlying22 Tryd.underlying5 Tryd.underlying9 (show 4 = (D.take 4).length by rw [List.length_take, HDl.out]; rfl) ((by rw [bvs_take]; exact hr7.take 4 : RdC (· < wr.heap.size) wr A7 (bvs (D.take 4))).move (w' := wr.drewN k) (fun _ _ => rfl))
            have k4 : (4 : Int) ≤ (c7 : Int) := by omega
            have HBf := Lib.hid (HB0.out.trans ((HBe.out.trans (hb1q.mono hbw)).mono HB0.out.size))
            clear hb1q g1 g2 hr7
            go_wp2_with fail
            go_quiet (fail)
            go_wp2_with fail
            go_ret
            exact ⟨rfl, below_drewN HBf.out _⟩
end Go.Proofs.YtlhoicbgahnagaaDoor
