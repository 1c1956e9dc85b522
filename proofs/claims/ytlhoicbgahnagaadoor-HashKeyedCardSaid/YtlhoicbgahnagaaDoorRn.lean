/- Walks: right, Join of the reference (layer 2); few of the law. -/
import Derived.Test.YtlhoicbgahnagaaDoorRd
import Derived.Test.YtlhoicbgahnagaaDoorHl
set_option linter.unusedVariables false
set_option linter.unusedSimpArgs false
set_option linter.unnecessarySimpa false
namespace Go.Proofs.YtlhoicbgahnagaaDoor
open Go.RowKit

theorem right_any (x n : Nat) (w : World) (hx : x < 4294967296) (h0 : 0 < n) (hn : n < 32) : Calls Tryd.prog 28 #[.int .u32 x, .int .u64 n] w (fun e w' => e = .returned (.int .u32 (rotr x n)) ∧ w = w') := by
  have m1 : IntKind.u64.wrap (32 - (n : Int)) = 32 - (n : Int) := IntWalk.u64_in _ (by omega)
  have m2 : (32 - (n : Int)).toNat = 32 - n := by omega
  have m3 : (0 : Int) ≤ 32 - (n : Int) := by omega
  have m4 : 32 - n < 32 := by omega
  have hr : bits .or .u32 ((x : Int) / 2 ^ n) ((x : Int) * 2 ^ (32 - n) % 4294967296) = ((rotr x n : Nat) : Int) := by
    have e1 : (x : Int) * 2 ^ (32 - n) % 4294967296 = ((x * 2 ^ (32 - n) % 4294967296 : Nat) : Int) := by simp
    have e2 : (x : Int) / 2 ^ n = ((x / 2 ^ n : Nat) : Int) := by simp
    have h2 : x / 2 ^ n ≤ x := Nat.div_le_self _ _
    rw [e1, e2, or32 _ _ (by omega) (by omega)]
    unfold rotr
    rw [Nat.shiftRight_eq_div_pow, Nat.shiftLeft_eq]
  have HR := Lib.hid hr
  clear hr
  go_enter Tryd.func28, Tryd.ntmps28
  go_wp2_with fail
  go_ret
  exact ⟨congrArg (fun z => Ending.returned (Value.int .u32 z)) HR.out, rfl⟩
theorem right_i (x : Nat) (n : Int) (w : World) (hx : x < 4294967296) (h0 : 0 < n) (hn : n < 32) : Calls Tryd.prog 28 #[.int .u32 x, .int .u64 n] w (fun e w' => e = .returned (.int .u32 (rotr x n.toNat)) ∧ w' = w) := by
  obtain ⟨m, rfl⟩ := Int.eq_ofNat_of_zero_le (show 0 ≤ n by omega)
  exact (right_any x m w hx (by omega) (by omega)).mono fun _ _ h => ⟨h.1, h.2.symm⟩
def JoinP (w : World) (b : Bs) (e : Ending) (w' : World) : Prop := ∃ v, e = .returned v ∧ w'.ownsRow w.heap.size 5 1 v b.length (bvs b) ∧ Below w.heap.size w w'
set_option maxHeartbeats 800000 in
theorem join_any (w : World) (PA : Option Addr) (pc : Nat) (vs : List Value) (ps : List Bs) (hP : RdC (· < w.heap.size) w PA vs) (hV : RowsOf (· < w.heap.size) w vs ps) (hk : ps.length ≤ 140737488355328) (hl : ps.flatten.length ≤ 35184372088832) :
    Calls Tryd.prog 16 #[.slice PA ps.length pc] w (JoinP w ps.flatten) := by
  obtain ⟨i0, hi, hz0, hz1, hz2⟩ := info_parts infoU8h
  have HP := Lib.hid hP
  have HV := Lib.hid hV
  have hzr := World.ownsRow_lit (base := w.heap.size) (e := 5) (size := 1) w #[] 0 (Nat.le_refl _) (by simp [maxLen]) (by simp)
  have HZ := Lib.hid hzr
  clear hP hV hzr
  go_enter Tryd.func16, Tryd.ntmps16
  go_wp2_with fail
  go_loopw [3, 9] (fun v i wq => ∃ t : Nat, t ≤ ps.length ∧ i = .int .i64 t ∧ wq.ownsRow w.heap.size 5 1 v (ps.take t).flatten.length (bvs (ps.take t).flatten) ∧ Below w.heap.size w wq) (fun _ i _ => ps.length - (intOf i).toNat)
  case atStart => exact ⟨0, Nat.zero_le _, rfl, HZ.out, (Below.refl _ _).alloc (Nat.le_refl _) _⟩
  case round =>
    obtain ⟨t, ht, rfl, hown, hbel⟩ := hrel
    by_cases hlt : t < ps.length
    · obtain ⟨A, c, hv1, hv2, hv3⟩ := HV.out.2 t hlt
      obtain ⟨ad, rfl, hok, hc⟩ := HP.out (by intro e; rw [e] at hv1; simp at hv1)
      have c1 : wr.cell? (ad.add t) = some (.slice A ps[t].length c) := (World.cell?_of_block (by rw [add_block]; exact hbel.block _ hok)).trans (hc t _ hv1)
      have hsn := flatten_take_succ ps t hlt
      have hle := flatten_take_le ps (t + 1)
      rw [hsn, List.length_append] at hle
      generalize hx : ps[t] = x at *
      generalize (ps.take t).flatten = y at *
      have j0 : (0 : Int) ≤ (t : Int) := by omega
      have j1 : (t : Int) < (ps.length : Int) := by omega
      have HSn := Lib.hid hsn
      have HX := Lib.hid hv2
      have HO := Lib.hid hown
      have HB := Lib.hid hbel
      have hbw : w.heap.size ≤ wr.heap.size := hbel.size
      clear hsn hv1 hv2 hc hx hown hbel
      go_wp2_with (
        at_builtin
        refine wpList_appS _ w.heap.size _ _ 22 5 i0 (.int .u8 0) 1 1 rfl (by rfl) Tryd.underlying22 hi hz0 hz1 hz2 rfl (by omega) (by omega) _ y.length (bvs y) (by rfl) HO.out A x.length c (bvs x) (by rfl) (by simp) (HX.out.below HB.out) (bvs_one x) (by omega) hbw ?_
        intro v2 w2 hown2 hg2
        have HB2 := Lib.hid (show Below w.heap.size w w2 from hg2.below HB.out hbw (own_base HO.out))
        have HO2 := Lib.hid hown2
        clear hown2 hg2)
      exact ⟨⟨t + 1, by omega, by go_num, by rw [HSn.out, bvs_append, List.length_append]; exact HO2.out, HB2.out⟩, by simp [intOf]; omega⟩
    · obtain rfl : t = ps.length := by omega
      rw [List.take_length] at hown
      have HO := Lib.hid hown
      have HB := Lib.hid hbel
      clear hown hbel
      go_wp2_with fail
      go_ret
      exact ⟨_, rfl, HO.out, HB.out⟩
/-! ### few -/
def weigh (ps : List Bs) : Nat := ps.length + ps.flatten.length
/-- Does few go on to the end, and what does it say? -/
def FewP (w : World) (ps : List Bs) (e : Ending) (w' : World) : Prop := ∃ v : Bool, e = .returned (.bool v) ∧ (v = true → weigh ps ≤ 20000) ∧ w = w'
set_option maxHeartbeats 800000 in
theorem few_any (w : World) (PA : Option Addr) (pc : Nat) (vs : List Value) (ps : List Bs) (hP : RdC (· < w.heap.size) w PA vs) (hV : RowsOf (· < w.heap.size) w vs ps) (hm : ∀ p ∈ ps, p.length ≤ 9223372036854775807) (hk : ps.length ≤ 9223372036854775807) :
    Calls Tryd.prog 11 #[.slice PA ps.length pc] w (FewP w ps) := by
  have HP := Lib.hid hP
  have HV := Lib.hid hV
  have HM := Lib.hid hm
  clear hP hV hm
  go_enter Tryd.func11, Tryd.ntmps11
  go_wp2_with fail
  go_loop [3, 8] (fun n i => ∃ t : Nat, t ≤ ps.length ∧ i = .int .i64 t ∧ n = .int .i64 ((weigh (ps.take t) : Nat) : Int) ∧ weigh (ps.take t) ≤ 40001) (fun _ i => ps.length - (intOf i).toNat)
  case atStart => exact ⟨0, Nat.zero_le _, rfl, rfl, by simp [weigh]⟩
  case round =>
    obtain ⟨t, ht, rfl, rfl, hwt⟩ := hrel
    by_cases hlt : t < ps.length
    · obtain ⟨A, c, hv1, hv2, hv3⟩ := HV.out.2 t hlt
      obtain ⟨ad, rfl, hok, hc⟩ := HP.out (by intro e; rw [e] at hv1; simp at hv1)
      have c1 := hc t _ hv1
      have hsn : weigh (ps.take (t + 1)) = weigh (ps.take t) + (1 + ps[t].length) := by
        unfold weigh
        rw [flatten_take_succ ps t hlt, List.length_append, List.length_take, List.length_take]
        omega
      have hpm := HM.out ps[t] (List.getElem_mem _)
      generalize ps[t] = x at *
      generalize weigh (ps.take t) = y at *
      have j0 : (0 : Int) ≤ (t : Int) := by omega
      have j1 : (t : Int) < (ps.length : Int) := by omega
      have HSn := Lib.hid hsn
      clear hsn hv1 hv2 hc
      by_cases c1 : y ≤ 20000
      · have k1 : ¬ (20000 : Int) < (y : Int) := by omega
        by_cases c2 : x.length ≤ 20000
        · have k2 : ¬ (20000 : Int) < (x.length : Int) := by omega
          go_wp2_with fail
          exact ⟨⟨t + 1, by omega, by go_num, by rw [HSn.out]; go_num, by rw [HSn.out]; omega⟩, by simp [intOf]; omega⟩
        · have k2 : (20000 : Int) < (x.length : Int) := by omega
          go_wp2_with fail
          go_ret
          exact ⟨false, rfl, by simp, rfl⟩
      · have k1 : (20000 : Int) < (y : Int) := by omega
        go_wp2_with fail
        go_ret
        exact ⟨false, rfl, by simp, rfl⟩
    · obtain rfl : t = ps.length := by omega
      rw [List.take_length] at hwt
      rw [List.take_length]
      have hfin : weigh ps ≤ 20000 ∨ 20000 < weigh ps := by omega
      have HF := Lib.hid hfin
      have he : weigh ps = weigh ps := rfl
      generalize hy : weigh ps = y at *
      have HY := Lib.hid hy
      clear hfin he hy
      rcases HF.out with h | h
      · have k1 : (y : Int) ≤ 20000 := by omega
        go_wp2_with fail
        go_ret
        exact ⟨true, rfl, fun _ => by rw [HY.out]; exact h, rfl⟩
      · have k1 : ¬ (y : Int) ≤ 20000 := by omega
        go_wp2_with fail
        go_ret
        exact ⟨false, rfl, by simp, rfl⟩
end Go.Proofs.YtlhoicbgahnagaaDoor
