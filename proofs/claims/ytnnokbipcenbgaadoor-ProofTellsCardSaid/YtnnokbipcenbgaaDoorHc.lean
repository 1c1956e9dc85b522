/- Walks of package slices: Grow of nil, Concat, at [][]byte. -/
import Derived.Test.YtnnokbipcenbgaaDoorHu
import Derived.Lib.AppendZeros
set_option linter.unusedVariables false
set_option linter.unusedSimpArgs false
set_option linter.unnecessarySimpa false
namespace Go.Proofs.YtnnokbipcenbgaaDoor
open Go.RowKit

theorem infoRow : (Tryd.prog.info? 22).map (fun i => (i.zero, i.size, i.bytes)) = some (some (.slice none 0 0), 1, 24) := by kernel_rfl
def GrowP (w : World) (e : Ending) (w' : World) : Prop := ∃ v, e = .returned v ∧ w'.ownsRow w.heap.size 22 1 v 0 [] ∧ Below w.heap.size w w'
set_option maxRecDepth 8000 in
set_option maxHeartbeats 400000 in
theorem grow_nil (n : Nat) (w : World) (hn : n ≤ 1099511627776) : Calls Tryd.prog 63 #[.slice none 0 0, .int .i64 n] w (GrowP w) := by
  obtain ⟨i0, hi, hz0, hz1, hz2⟩ := info_parts infoRow
  rcases Nat.eq_zero_or_pos n with rfl | h0
  · go_enter Tryd.func63, Tryd.ntmps63
    go_wp2_with fail
    go_ret
    exact ⟨_, rfl, ⟨rfl, .inl ⟨rfl, rfl⟩⟩, Below.refl _ _⟩
  · have happ := fun ty => Lib.run_append_nil_zeros (P := Tryd.prog) w 88 3 ty 22 i0 (.slice none 0 0) .i64 .i64 Tryd.underlying88 Tryd.underlying3 hi hz0 n h0 (by omega) (by omega) (by rw [hz2]; omega)
    have hge := grownCap_ge w n 0 22
    have hcm := grownCap_le_maxLen w n 0 22 (by unfold maxLen; omega)
    generalize grownCap w n 0 22 = G at *
    unfold maxLen at hcm
    have j0 : (0 : Int) < (n : Int) := by omega
    have j1 : (0 : Int) ≤ (n : Int) := by omega
    have hzc : (Builtin.zeroCells (Value.slice none 0 0).cells n ++ Builtin.zeroCells (Value.slice none 0 0).cells (G - n)).size = G := by
      rw [Array.size_append, size_zeroCells, size_zeroCells]
      simp [Value.cells]
      omega
    generalize (Builtin.zeroCells (Value.slice none 0 0).cells n ++ Builtin.zeroCells (Value.slice none 0 0).cells (G - n)) = C at *
    have HZ := Lib.hid hzc
    clear hzc
    go_enter Tryd.func63, Tryd.ntmps63
    go_wp2_with (at_builtin; refine Lib.wpList_append_run _ rfl _ _ _ _ rfl _ _ rfl rfl _ _ (happ _) ?_)
    go_ret
    exact ⟨_, rfl, ⟨rfl, .inr ⟨w.heap.size, G, C, rfl, Nat.le_refl _, heap_alloc_new _ _, by omega, by unfold maxLen; omega, by rw [HZ.out]; omega, by simp⟩⟩, (below_drewN (Below.refl _ _) 1).alloc (Nat.le_refl _) _⟩
/-- The values vs are slices that read as css. -/
def SlicesOf (ok : Nat → Prop) (w : World) (vs : List Value) (css : List (List Value)) : Prop :=
  vs.length = css.length ∧ ∀ i (h : i < css.length), ∃ A c, vs[i]? = some (.slice A css[i].length c) ∧ RdC ok w A css[i] ∧ css[i].length ≤ c ∧ ∀ u ∈ css[i], u.oneCell' = true
def ConcatP (w : World) (css : List (List Value)) (e : Ending) (w' : World) : Prop := ∃ v, e = .returned v ∧ w'.ownsRow w.heap.size 22 1 v css.flatten.length css.flatten ∧ Below w.heap.size w w'
theorem flat_take_succ (css : List (List Value)) (i : Nat) (h : i < css.length) : (css.take (i + 1)).flatten = (css.take i).flatten ++ css[i] := by
  rw [List.take_succ_eq_append_getElem h, List.flatten_append, List.flatten_cons, List.flatten_nil, List.append_nil]
theorem flat_take_le (css : List (List Value)) (i : Nat) : (css.take i).flatten.length ≤ css.flatten.length := by
  have : css.flatten = (css.take i).flatten ++ (css.drop i).flatten := by rw [← List.flatten_append, List.take_append_drop]
  rw [this, List.length_append]; omega
set_option maxRecDepth 8000 in
set_option maxHeartbeats 800000 in
theorem concat_any (w : World) (PA : Option Addr) (pc : Nat) (vs : List Value) (css : List (List Value)) (hP : RdC (· < w.heap.size) w PA vs) (hV : SlicesOf (· < w.heap.size) w vs css) (hk : css.length ≤ 140737488355328) (hl : css.flatten.length ≤ 1099511627776) :
    Calls Tryd.prog 51 #[.slice PA css.length pc] w (ConcatP w css) := by
  obtain ⟨i0, hi, hz0, hz1, hz2⟩ := info_parts infoRow
  have HP := Lib.hid hP
  have HV := Lib.hid hV
  clear hP hV
  go_enter Tryd.func51, Tryd.ntmps51
  go_wp2_with fail
  go_loop [3, 11] (fun s i => ∃ t : Nat, t ≤ css.length ∧ i = .int .i64 t ∧ s = .int .i64 (((css.take t).flatten.length : Nat) : Int)) (fun _ i => css.length - (intOf i).toNat)
  case atStart => exact ⟨0, Nat.zero_le _, rfl, rfl⟩
  case round =>
    obtain ⟨t, ht, rfl, rfl⟩ := hrel
    by_cases hlt : t < css.length
    · obtain ⟨A, c, hv1, hv2, hv3, _⟩ := HV.out.2 t hlt
      obtain ⟨ad, rfl, hok, hc⟩ := HP.out (by intro e; rw [e] at hv1; simp at hv1)
      have c1 := hc t _ hv1
      have hsn := congrArg List.length (flat_take_succ css t hlt)
      have hle := flat_take_le css (t + 1)
      rw [List.length_append] at hsn
      rw [hsn] at hle
      generalize hx : css[t].length = x at *
      generalize hy : (css.take t).flatten.length = y at *
      have j0 : (0 : Int) ≤ (t : Int) := by omega
      have j1 : (t : Int) < (css.length : Int) := by omega
      have j2 : ¬ ((y : Int) + (x : Int) < 0) := by omega
      have HSn := Lib.hid hsn
      clear hsn hv1 hv2 hc hx hy
      go_wp2_with fail
      exact ⟨⟨t + 1, by omega, by go_num, by rw [HSn.out]; go_num⟩, by simp [intOf]; omega⟩
    · obtain rfl : t = css.length := by omega
      rw [List.take_length]
      generalize hN : css.flatten.length = N at *
      have HN := Lib.hid hN
      clear hN
      go_wp2_with fail
      refine (grow_nil N w hl).mono ?_
      rintro e w1 ⟨v1, rfl, hown, hbel⟩
      have HO1 := Lib.hid hown
      have HB1 := Lib.hid hbel
      clear hown hbel
      go_wp2_with fail
      go_loopw [6, 27] (fun v i wq => ∃ t : Nat, t ≤ css.length ∧ i = .int .i64 t ∧ wq.ownsRow w.heap.size 22 1 v (css.take t).flatten.length (css.take t).flatten ∧ Below w.heap.size w wq) (fun _ i _ => css.length - (intOf i).toNat)
      case atStart => exact ⟨0, Nat.zero_le _, rfl, HO1.out, HB1.out⟩
      case round =>
        obtain ⟨t, ht, rfl, hown, hbel⟩ := hrel
        by_cases hlt : t < css.length
        · obtain ⟨A, c, hv1, hv2, hv3, hv4⟩ := HV.out.2 t hlt
          obtain ⟨ad, rfl, hok, hc⟩ := HP.out (by intro e; rw [e] at hv1; simp at hv1)
          have c1 : wr.cell? (ad.add t) = some (.slice A css[t].length c) := (World.cell?_of_block (by rw [add_block]; exact hbel.block _ hok)).trans (hc t _ hv1)
          have hsn := flat_take_succ css t hlt
          have hle := flat_take_le css (t + 1)
          rw [hsn, List.length_append, HN.out] at hle
          generalize css[t] = x at *
          generalize (css.take t).flatten = y at *
          have j0 : (0 : Int) ≤ (t : Int) := by omega
          have j1 : (t : Int) < (css.length : Int) := by omega
          have HSn := Lib.hid hsn
          have HX := Lib.hid hv2
          have HX4 := Lib.hid hv4
          have HO := Lib.hid hown
          have HB := Lib.hid hbel
          have hbw : w.heap.size ≤ wr.heap.size := hbel.size
          clear hsn hv1 hv2 hc hv4 hown hbel
          go_wp2_with (
            at_builtin
            refine wpList_appS _ w.heap.size _ _ 88 22 i0 (.slice none 0 0) 1 24 rfl (by rfl) Tryd.underlying88 hi hz0 hz1 hz2 rfl (by omega) (by omega) _ y.length y (by rfl) HO.out A x.length c x (by rfl) (by simp) (HX.out.below HB.out) HX4.out (by omega) hbw ?_
            intro v2 w2 hown2 hg2
            have hb2 : Below w.heap.size w w2 := hg2.below HB.out hbw (own_base HO.out)
            have HO2 := Lib.hid hown2
            have HB2 := Lib.hid hb2
            clear hown2 hg2 hb2)
          exact ⟨⟨t + 1, by omega, by go_num, by rw [HSn.out, List.length_append]; exact HO2.out, HB2.out⟩, by simp [intOf]; omega⟩
        · obtain rfl : t = css.length := by omega
          rw [List.take_length] at hown
          have HO := Lib.hid hown
          have HB := Lib.hid hbel
          clear hown hbel
          go_wp2_with fail
          go_ret
          exact ⟨_, rfl, HO.out, HB.out⟩
end Go.Proofs.YtnnokbipcenbgaaDoor
