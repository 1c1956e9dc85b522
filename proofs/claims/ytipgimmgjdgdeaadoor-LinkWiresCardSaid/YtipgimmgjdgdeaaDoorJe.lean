/- Walks of package replay: told, Fits, Take. -/
import Derived.Test.YtipgimmgjdgdeaaDoorJd
set_option linter.unusedVariables false
set_option linter.unusedSimpArgs false
set_option linter.unnecessarySimpa false
namespace Go.Proofs.YtipgimmgjdgdeaaDoor
open Go.RowKit
attribute [local go_sem] run_store_flt

/-! ### A row in takes a frame -/
def takeB (r : Except Er Bool) : Bool := match r with
  | .ok b => b
  | .error _ => false
def takeE (es : Er → Addr) (r : Except Er Bool) : Value := match r with
  | .ok _ => .nilIface
  | .error er => errV (es er)
/-- What Take answers. -/
def TakeRP (es : Er → Addr) (w : World) (G got : Nat) (f : Fr) (e : Ending) (w' : World) : Prop :=
  e = .returned (.tuple #[.bool (takeB (takeR got f)), takeE es (takeR got f)]) ∧ ∃ w1, Below w.heap.size w w1 ∧ w' = w1.setCell ⟨G, 0, none⟩ (.int .i64 (gotR got f : Nat))
theorem TakeRP.mk {es : Er → Addr} {w w1 : World} {G got : Nat} {f : Fr} {r : Except Er Bool} (hr : takeR got f = r) (hn : r ≠ .ok true) (hi : InAt w G got) (hb : Below w.heap.size w w1) : TakeRP es w G got f (.returned (.tuple #[.bool (takeB r), takeE es r])) w1 := by
  refine ⟨by rw [hr], w1, hb, ?_⟩
  have h1 : gotR got f = got := by
    unfold gotR
    rw [hr]
    match r, hn with
    | .ok false, _ => rfl
    | .error _, _ => rfl
    | .ok true, h => exact absurd rfl h
  rw [h1]
  exact (setCell_id' ((hb.block G hi.lt).trans hi) rfl).symm
set_option maxRecDepth 8000 in
set_option maxHeartbeats 6400000 in
theorem rtake_any (es : Er → Addr) (w : World) (G got : Nat) (f : Fr) (A : Option Addr) (c : Nat) (hE : REnv w es) (hi : InAt w G got) (hg : got ≤ 1099511627776) (hl : f.lens) (hA : RdC (· < w.heap.size) w A (bvs f.bytes)) :
    Calls Tryd.prog 19 #[.pointer (some ⟨G, 0, none⟩), frV f A c] w (TakeRP es w G got f) := by
  obtain ⟨w1, hw1, hb1, hs1, hf1⟩ := box_world w f A c
  have HI := Lib.hid hi
  have HE := Lib.hid hE
  have HLn := Lib.hid hl
  have HA := Lib.hid hA
  have HB1 := Lib.hid hb1
  have HS1 := Lib.hid hs1
  have HW1 := Lib.hid hw1.symm
  have HF1 := Lib.hid hf1
  have HCk := Lib.hid (checkF_any es f A c w1 ((hE.step hb1).fenv) hl (hA.step hb1))
  obtain ⟨c0, c1, c2, c3, c4, c5, c6, c7, c8, c9⟩ := hf1
  clear hi hE hl hA hb1 hs1 hw1
  unfold frV at HCk
  unfold frV
  simp only [frCs] at HW1
  go_enter Tryd.func19, Tryd.ntmps19
  cases hr : rowF f.kind with
  | false =>
    have HT := Lib.hid (show takeR got f = .error .frame by unfold takeR; rw [if_neg (by rw [hr]; simp)])
    have HR := Lib.hid hr
    clear hr
    have he := ((HE.out.step HB1.out).fenv.frame).at
    unfold errV at he
    go_wp2_with (first | (go_at_call 52; refine (row_any _ _).mono ?_; rintro e w' ⟨rfl, rfl⟩; rw [HR.out]) | rw [HW1.out])
    go_quiet (fail)
    go_wp2_with fail
    go_ret2
    exact TakeRP.mk HT.out (by simp) HI.out (below_drewN HB1.out _)
  | true =>
    have HR := Lib.hid hr
    have hr' := hr
    clear hr
    cases hc : checkF f with
    | false =>
      have HT := Lib.hid (show takeR got f = .error .frame by unfold takeR; rw [if_neg (by rw [hc]; simp)])
      have HCk2 := Lib.hid (HCk.out.mono fun e w' h => (show e = .returned (errV (es .frame)) ∧ Below w1.heap.size w1 w' from ⟨by rw [h.1, hc]; rfl, h.2⟩))
      clear hc hr'
      go_wp2_with (first | (go_at_call 52; refine (row_any _ _).mono ?_; rintro e w' ⟨rfl, rfl⟩; rw [HR.out]) | rw [HW1.out])
      refine HCk2.out.mono ?_
      rintro e w2 ⟨rfl, hb2⟩
      have HB2 := Lib.hid (below_on HB1.out hb2)
      have he := ((HE.out.step HB2.out).fenv.frame).at
      clear hb2
      unfold errV at he
      unfold errV
      go_wp2_with fail
      go_quiet (fail)
      go_wp2_with fail
      go_ret2
      exact TakeRP.mk HT.out (by simp) HI.out (below_drewN HB2.out _)
    | true =>
      have HCk2 := Lib.hid (HCk.out.mono fun e w' h => (show e = .returned .nilIface ∧ Below w1.heap.size w1 w' from ⟨by rw [h.1, hc]; rfl, h.2⟩))
      have hsq := seq_in hc hr'
      have HCk3 := Lib.hid (And.intro hr' hc)
      clear hc hr'
      go_wp2_with (first | (go_at_call 52; refine (row_any _ _).mono ?_; rintro e w' ⟨rfl, rfl⟩; rw [HR.out]) | rw [HW1.out])
      refine HCk2.out.mono ?_
      rintro e w2 ⟨rfl, hb2⟩
      have HB2 := Lib.hid (below_on HB1.out hb2)
      have hi2 : InAt w2 G got := (HB2.out.block G HI.out.lt).trans HI.out
      have HI2 := Lib.hid hi2
      have g0 := hi2.c0
      have gf := hi2.fz
      have hG2 := hi2.lt
      obtain ⟨d0, d1, d2, d3, d4, d5, d6, d7, d8, d9⟩ := HF1.out.on (by rw [HS1.out]; omega) hb2
      have j1 : IntKind.i64.wrap ((got : Int) + 1) = (got : Int) + 1 := IntWalk.i64_in _ (by omega)
      clear hb2 hi2 c0 c1 c2 c3 c4 c5 c6 c7 c8 c9 d0 d2 d3 d4 d5 d6 d7 d8 d9
      by_cases hgt : f.seq > ((got + 1 : Nat) : Int)
      · have HT := Lib.hid (show takeR got f = .error .gap by unfold takeR; rw [if_pos HCk3.out, if_pos hgt])
        have k1 : (got : Int) + 1 < f.seq := by omega
        have he := ((HE.out.step HB2.out).gap).at
        unfold errV at he
        clear hgt
        go_wp2_with fail
        go_quiet (fail)
        go_wp2_with fail
        go_quiet (fail)
        go_wp2_with fail
        go_ret2
        exact TakeRP.mk HT.out (by simp) HI.out (below_drewN (below_drewN HB2.out _) _)
      · have k1 : ¬ (got : Int) + 1 < f.seq := by omega
        by_cases hle : f.seq ≤ (got : Int)
        · have HT := Lib.hid (show takeR got f = .ok false by unfold takeR; rw [if_pos HCk3.out, if_neg hgt, if_pos hle])
          clear hgt
          go_wp2_with fail
          go_quiet (fail)
          go_wp2_with fail
          go_quiet (fail)
          go_wp2_with fail
          go_ret2
          exact TakeRP.mk HT.out (by simp) HI.out (below_drewN (below_drewN HB2.out _) _)
        · have HT := Lib.hid (show takeR got f = .ok true by unfold takeR; rw [if_pos HCk3.out, if_neg hgt, if_neg hle])
          clear hgt
          go_wp2_with fail
          go_quiet (fail)
          go_wp2_with fail
          go_quiet (fail)
          go_wp2_with fail
          go_ret2
          refine ⟨by rw [HT.out]; rfl, ?zw, ?zb, ?zc⟩
          case zc =>
            rw [show gotR got f = got + 1 by unfold gotR; rw [HT.out]]
            rfl
          case zb => exact below_drewN HB2.out _
/-! ### A frame as it is handed out -/
/-- What told answers: the frame, its bytes in a new block. -/
def ToldP (w : World) (f : Fr) (e : Ending) (w' : World) : Prop := Below w.heap.size w w' ∧ ∃ A c, e = .returned (frV f A c) ∧ RdC (fun k => w.heap.size ≤ k ∧ k < w'.heap.size) w' A (bvs f.bytes)
theorem told_ret {Q : Ending → World → Prop} {W3 : World} {g : Fr} {A : Option Addr} {K B : Nat} {tmps : Array Value} (h0 : W3.heap[B]? = some (.cells (frCs (Fr.of 0) none 0) 33 (0, 0)))
    (ht : tmps[2]? = some (.pointer (some ⟨B, 0, none⟩))) (hR : Q (.returned (frV g A K)) (W3.setCells B 0 (frCs g A K).toList)) :
    bodyPost Tryd.prog Tryd.f51 Q .ret { tmps := tmps, defers := [] } (W3.setCells B 0 (frCs g A K).toList) := by
  have hfin : (W3.setCells B 0 (frCs g A K).toList).heap[B]? = some (.cells (frCs g A K) 33 (0, 0)) := by
    have := heap_setAll (frCs g A K).toList h0 rfl
    simpa using this
  obtain ⟨d0, d1, d2, d3, d4, d5, d6, d7, d8, d9⟩ := FrC.of_heap hfin
  generalize W3.setCells B 0 (frCs g A K).toList = W' at *
  refine bodyPost_ret (v := frV g A K) ?_ rfl hR
  simp [results, Tryd.results51, go_sem, ht, d0, d1, d2, d3, d4, d5, d6, d7, d8, d9, frV]
set_option maxRecDepth 8000 in
set_option maxHeartbeats 3200000 in
theorem told_any (w : World) (f : Fr) (A : Option Addr) (c : Nat) (hA : RdC (· < w.heap.size) w A (bvs f.bytes)) (hbl : f.bytes.length ≤ 100000000000000) :
    Calls Tryd.prog 51 #[frV f A c] w (ToldP w f) := by
  obtain ⟨w1, hw1⟩ : ∃ W, W = (w.alloc (Obj.cells (frCs f A c) 33)).alloc (Obj.cells (frCs (Fr.of 0) none 0) 33) := ⟨_, rfl⟩
  have hb0 : Below w.heap.size w (w.alloc (Obj.cells (frCs f A c) 33)) := below_box _ _
  have hb1 : Below w.heap.size w w1 := by rw [hw1]; exact hb0.alloc hb0.size _
  have hh : w1.heap[w.heap.size]? = some (.cells (frCs f A c) 33 (0, 0)) := by
    rw [hw1]
    exact ((below_box (w.alloc (Obj.cells (frCs f A c) 33)) (Obj.cells (frCs (Fr.of 0) none 0) 33)).block w.heap.size (by simp)).trans (heap_alloc_new _ _)
  have hk : w1.heap[w.heap.size + 1]? = some (.cells (frCs (Fr.of 0) none 0) 33 (0, 0)) := by
    rw [hw1]
    have := heap_alloc_new (w.alloc (Obj.cells (frCs f A c) 33)) (Obj.cells (frCs (Fr.of 0) none 0) 33)
    simpa using this
  have hs1 : w1.heap.size = w.heap.size + 1 + 1 := by rw [hw1]; simp
  have HCl := Lib.hid (clone_any w1 A f.bytes.length c f.bytes rfl (hA.step hb1) hbl)
  have HB1 := Lib.hid hb1
  have HH1 := Lib.hid hh
  have HK1 := Lib.hid hk
  have HS1 := Lib.hid hs1
  have HW1 := Lib.hid hw1.symm
  obtain ⟨d0, d1, d2, d3, d4, d5, d6, d7, d8, d9⟩ := FrC.of_heap hh
  have hP1 : w.heap.size < w1.heap.size := by omega
  clear hA hb1 hh hk hb0 hw1 hs1
  unfold frV
  simp only [frCs, Fr.of, noS, List.length_nil] at HW1
  go_enter Tryd.func51, Tryd.ntmps51
  go_wp2_with (rw [HW1.out])
  refine HCl.out.mono ?_
  rintro e w4 ⟨hb14, A4, c4, rfl, ho4⟩
  clear d0 d1 d2 d3 d4 d5 d6 d7 d8 d9
  have hh4 := (hb14.block w.heap.size (by rw [HS1.out]; omega)).trans HH1.out
  have hk4 := (hb14.block (w.heap.size + 1) (by rw [HS1.out]; omega)).trans HK1.out
  have HB4 := Lib.hid (below_on HB1.out hb14)
  have hz4 : w.heap.size + 1 + 1 ≤ w4.heap.size := by rw [← HS1.out]; exact hb14.size
  have hr4 := (RdC.of_own ho4).mono (ok' := fun k => w.heap.size + 1 + 1 ≤ k ∧ k < w4.heap.size) (fun k hk => by rw [HS1.out] at hk; exact hk)
  obtain ⟨w5, hw5⟩ : ∃ W, W = w4.setCell ⟨w.heap.size, 9, none⟩ (.slice A4 f.bytes.length c4) := ⟨_, rfl⟩
  have hh5 : w5.heap[w.heap.size]? = some (.cells (frCs f A4 c4) 33 (0, 0)) := by rw [hw5]; exact heap_setCell_same _ _ 9 _ _ _ hh4
  have hb5 : Below w.heap.size w w5 := by rw [hw5]; exact HB4.out.setCell (Nat.le_refl _) _
  have hk5 : w5.heap[w.heap.size + 1]? = some (.cells (frCs (Fr.of 0) none 0) 33 (0, 0)) := by rw [hw5, heap_setCell_other _ _ _ _ (by show w.heap.size + 1 ≠ w.heap.size; omega)]; exact hk4
  have hs5 : w5.heap.size = w4.heap.size := by rw [hw5, World.size_setCell]
  have hr5 : RdC (fun k => w.heap.size + 1 + 1 ≤ k ∧ k < w5.heap.size) w5 A4 (bvs f.bytes) := by
    rw [hs5, hw5]
    exact hr4.move (fun k hk => heap_setCell_other _ _ _ _ (by show k ≠ w.heap.size; omega))
  obtain ⟨e0, e1, e2, e3, e4, e5, e6, e7, e8, e9⟩ := FrC.of_heap hh4
  have hfz : ∀ j, w4.frozen? ⟨w.heap.size, j, none⟩ = false := fun j => frozen_of_row w4 w.heap.size j _ _ hh4
  obtain ⟨d0, d1, d2, d3, d4, d5, d6, d7, d8, d9⟩ := FrC.of_heap hk4
  have HB5 := Lib.hid hb5
  have HK5 := Lib.hid hk5
  have HR5 := Lib.hid hr5
  have HW5 := Lib.hid hw5
  have hP4 : w.heap.size + 1 < w4.heap.size := by omega
  have hfk : ∀ j, w4.frozen? ⟨w.heap.size + 1, j, none⟩ = false := fun j => frozen_of_row w4 (w.heap.size + 1) j _ _ hk4
  have hP5 : w.heap.size + 1 + 1 ≤ w5.heap.size := by omega
  clear hb14 ho4 hh4 hk4 hr4 hw5 hh5 hb5 hk5 hs5 hr5
  go_wp2_with fail
  rw [← HW5.out]
  exact told_ret (Q := ToldP w f) (g := f) (A := A4) (K := c4) (B := w.heap.size + 1) HK5.out rfl ⟨below_setCells _ _ (by omega) _ _ _ HB5.out, A4, c4, rfl, (HR5.out.move (fun k hk => setCells_other _ _ _ _ (by omega))).mono (fun k hk => ⟨by omega, by rw [(tape_setCells _ _ _ _).2]; omega⟩)⟩
set_option maxRecDepth 8000 in
set_option maxHeartbeats 3200000 in
theorem rfits_any (es : Er → Addr) (M : Nat → Prop) (w : World) (G : Nat) (v : Value) (o : Ro) (f : Fr) (A : Option Addr) (c : Nat) (hE : REnv w es) (s : OutAt M w G v o) (hf : o.fine) (hl : f.lens) (hA : RdC (· < w.heap.size) w A (bvs f.bytes)) (hbl : f.bytes.length ≤ 100000000000000) :
    Calls Tryd.prog 24 #[.pointer (some ⟨G, 0, none⟩), frV f A c] w (BoolP (o.may f).isNone w) := by
  obtain ⟨w1, hw1, hb1, hs1, hf1⟩ := box_world w f A c
  have HN := Lib.hid (next_any' es M w1 G v o f A c (hE.step hb1) (s.on hb1) hf hl (hA.step hb1) hbl)
  have HB1 := Lib.hid hb1
  have HW1 := Lib.hid hw1.symm
  obtain ⟨c0, c1, c2, c3, c4, c5, c6, c7, c8, c9⟩ := hf1
  clear hE hA hb1 hs1 hw1 s hf hl
  unfold frV at HN
  unfold frV
  simp only [frCs] at HW1
  go_enter Tryd.func24, Tryd.ntmps24
  cases hm : o.may f with
  | none =>
    go_wp2_with (rw [HW1.out])
    refine (HN.out.mono fun e w' h => h.ok hm).mono ?_
    rintro e w2 ⟨hb2, A2, k2, rfl, hr2⟩
    have HB2 := Lib.hid (below_on HB1.out hb2)
    clear hb2 hr2 hm c0 c1 c2 c3 c4 c5 c6 c7 c8 c9
    simp only [ktCs, frCs]
    go_wp2_with fail
    go_ret
    exact ⟨rfl, HB2.out.alloc HB2.out.size _⟩
  | some er =>
    go_wp2_with (rw [HW1.out])
    refine (HN.out.mono fun e w' h => h.er hm).mono ?_
    rintro e w2 ⟨rfl, hb2⟩
    have HB2 := Lib.hid (below_on HB1.out hb2)
    clear hb2 hm c0 c1 c2 c3 c4 c5 c6 c7 c8 c9
    unfold errV zeroKt
    go_wp2_with fail
    go_ret
    exact ⟨rfl, HB2.out.alloc HB2.out.size _⟩
end Go.Proofs.YtipgimmgjdgdeaaDoor
