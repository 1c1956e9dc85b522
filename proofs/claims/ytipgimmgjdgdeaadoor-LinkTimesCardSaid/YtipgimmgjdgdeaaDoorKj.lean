/- Walk of the statement LinkTimes. -/
import Derived.Test.YtipgimmgjdgdeaaDoorKi
set_option linter.unusedVariables false
set_option linter.unusedSimpArgs false
set_option linter.unnecessarySimpa false
namespace Go.Proofs.YtipgimmgjdgdeaaDoor
open Go.RowKit
attribute [local go_sem] run_store_flt

theorem tick (z : Int) : ∃ K : Nat, wrap64 ((IntKind.u64.wrap z).tmod 1099511627776) = (K : Int) ∧ K < 1099511627776 := by
  have h0 : 0 ≤ IntKind.u64.wrap z := by rw [IntKind.wrap_u64]; omega
  have e1 : (IntKind.u64.wrap z).tmod 1099511627776 = IntKind.u64.wrap z % 1099511627776 := Int.tmod_eq_emod_of_nonneg h0
  rw [e1]
  generalize IntKind.u64.wrap z = y at *
  refine ⟨(y % 1099511627776).toNat, ?_, by omega⟩
  rw [IntWalk.wrap64_in _ (by omega)]
  omega
theorem lost_up (m : Lk) (n : Int) (h : m.up = true) : lostB m n = false := by unfold lostB; rw [h]; rfl
def lkd (s : Nat) : Lk := ⟨⟨[], 0⟩, 0, [], false, 0, s⟩
theorem down0 (s : Nat) : lk0.down s = lkd s := rfl
theorem downd (s : Nat) (x : Int) : (lkd s).down x = lkd s := rfl
theorem raised (s : Nat) : (lkd s).raise 0 = { lk0 with since := s } := rfl
theorem lost_d (s : Nat) (n : Int) : lostB (lkd s) n = decide (20 < n - (s : Int)) := by
  unfold lostB
  show (true && decide ((s : Int) < n) && decide (20 < n - (s : Int))) = _
  by_cases h : 20 < n - (s : Int)
  · rw [decide_eq_true h, decide_eq_true (show (s : Int) < n by omega)]; rfl
  · rw [decide_eq_false h, Bool.and_false]
theorem fined (s : Nat) : (lkd s).fine := ⟨Ro.fine.new, by simp [lkd], Nat.le_refl _, by simp [lkd]⟩
set_option maxRecDepth 8000 in
set_option maxHeartbeats 6400000 in
theorem times_walk (es : Er → Addr) (w : World) (x y : Int) (hE : LEnv w es) : Calls Tryd.prog 11 #[.int .i64 x, .int .i64 y] w (OkPost w) := by
  have HE := Lib.hid hE
  have HAl := Lib.hid (alive12 es w hE)
  obtain ⟨S, hS, hS2⟩ := tick x
  obtain ⟨N, hN, hN2⟩ := tick y
  clear hE
  go_enter Tryd.func11, Tryd.ntmps11
  go_wp2_with fail
  refine HAl.out.mono ?_
  rintro e wl ⟨rfl, hbl⟩
  have HN1 := Lib.hid (lnew_any wl)
  have HBl := Lib.hid hbl
  clear hbl
  go_wp2_with fail
  try rw [hS]
  try rw [hN]
  clear hS hN
  refine HN1.out.mono ?_
  rintro e w1 ⟨L, G, I, rfl, s1, hb1⟩
  have HS1 := Lib.hid (show Own wl.heap.size (fun k => wl.heap.size ≤ k ∧ k < w1.heap.size) w1 L G I _ _ _ from ⟨s1, fun k hk => hk⟩)
  have HB1 := Lib.hid hb1
  have hz1 := hb1.size
  clear s1 hb1
  have hup := up_any es _ w1 L G I _ _ _ 0 wl (HE.out.r.step HBl.out) HB1.out (HS1.out.low hz1) HS1.out.open Lk.fine.new (Nat.le_refl _) (Nat.zero_le _) HS1.out.fresh
  rw [raise_new] at hup
  have HUp := Lib.hid (show Calls Tryd.prog 43 #[.pointer (some ⟨L, 0, none⟩), .int .i64 0] w1 _ from hup)
  clear hup
  go_wp2_with fail
  refine HUp.out.mono ?_
  rintro e w2 ⟨rfl, v2, vw2, s2, hch2, hbb2⟩
  have hz2 := hch2.size
  have HS2 := Lib.hid (Own.next hz1 HS1.out.dom s2)
  have HB2 := Lib.hid (HS1.out.below hch2 HB1.out hz1)
  have hzw2 : wl.heap.size ≤ w2.heap.size := by omega
  have hlo := lost_any _ w2 L G I _ _ lk0 (N : Int) s2 (by omega) (by show (-9223372036854775808 : Int) ≤ 0; omega)
  rw [lost_up lk0 _ rfl] at hlo
  have HLo := Lib.hid hlo
  have HIs := Lib.hid (isUp_any _ w2 L G I _ _ lk0 s2)
  clear s2 hch2 hbb2 hlo
  go_wp2_with fail
  refine HLo.out.mono ?_
  rintro e w3 ⟨rfl, rfl⟩
  go_wp2_with fail
  refine HIs.out.mono ?_
  rintro e w4 hv4
  obtain ⟨rfl, hb4⟩ := hv4.below
  have HS4 := Lib.hid (HS2.out.on hb4)
  have HB4 := Lib.hid (below_on HB2.out hb4)
  have hz4 := hb4.size
  have hzw4 : wl.heap.size ≤ w4.heap.size := by omega
  have hdo := down_any _ w4 L G I _ _ lk0 (S : Int) HS4.out.open HS4.out.fresh
  rw [down0] at hdo
  have HDo := Lib.hid hdo
  have k1 : IntKind.i64.wrap ((S : Int) + 1000) = (S : Int) + 1000 := IntWalk.i64_in _ (by omega)
  have k2 : IntKind.i64.wrap ((S : Int) + 21) = (S : Int) + 21 := IntWalk.i64_in _ (by omega)
  have k3 : IntKind.i64.wrap ((S : Int) + 20) = (S : Int) + 20 := IntWalk.i64_in _ (by omega)
  have k4 : IntKind.i64.wrap ((N : Int) - (S : Int)) = (N : Int) - (S : Int) := IntWalk.i64_in _ (by omega)
  clear hv4 hb4 hdo
  rw [show lk0.up = true from rfl]
  go_wp2_with fail
  refine HDo.out.mono ?_
  rintro e w5 ⟨rfl, v5, vw5, s5, hch5, hbb5⟩
  have hz5 := hch5.size
  have HS5 := Lib.hid (Own.next hzw4 HS4.out.dom s5)
  have HB5 := Lib.hid (HS4.out.below hch5 HB4.out hzw4)
  have hzw5 : wl.heap.size ≤ w5.heap.size := by omega
  clear s5 hch5 hbb5
  have hdo := down_any _ w5 L G I _ _ (lkd S) ((S : Int) + 1000) HS5.out.open HS5.out.fresh
  rw [downd] at hdo
  have HDo2 := Lib.hid hdo
  clear hdo
  go_wp2_with fail
  refine HDo2.out.mono ?_
  rintro e w6 ⟨rfl, v6, vw6, s6, hch6, hbb6⟩
  have hz6 := hch6.size
  have HS6 := Lib.hid (Own.next hzw5 HS5.out.dom s6)
  have HB6 := Lib.hid (HS5.out.below hch6 HB5.out hzw5)
  have hzw6 : wl.heap.size ≤ w6.heap.size := by omega
  have hl1 := lost_any _ w6 L G I _ _ (lkd S) (N : Int) s6 (by omega) (by show (-9223372036854775808 : Int) ≤ (S : Int); omega)
  rw [lost_d] at hl1
  have HL1 := Lib.hid hl1
  have HIs6 := Lib.hid (isUp_any _ w6 L G I _ _ (lkd S) s6)
  clear s6 hch6 hbb6 hl1
  go_wp2_with fail
  refine HL1.out.mono ?_
  rintro e w7 ⟨rfl, rfl⟩
  have hl2 := lost_any _ w7 L G I _ _ (lkd S) ((S : Int) + 21) HS6.out.at_ (by omega) (by show (-9223372036854775808 : Int) ≤ (S : Int); omega)
  rw [lost_d, show decide (20 < (S : Int) + 21 - (S : Int)) = true from decide_eq_true (by omega)] at hl2
  have HL2 := Lib.hid hl2
  have hl3 := fun W (h : Below w7.heap.size w7 W) => lost_any _ W L G I _ _ (lkd S) ((S : Int) + 20) (HS6.out.at_.on h) (by omega) (by show (-9223372036854775808 : Int) ≤ (S : Int); omega)
  rw [lost_d, show decide (20 < (S : Int) + 20 - (S : Int)) = false from decide_eq_false (by omega)] at hl3
  have HL3 := Lib.hid hl3
  have hl2' := fun W (h : Below w7.heap.size w7 W) => lost_any _ W L G I _ _ (lkd S) ((S : Int) + 21) (HS6.out.at_.on h) (by omega) (by show (-9223372036854775808 : Int) ≤ (S : Int); omega)
  rw [lost_d, show decide (20 < (S : Int) + 21 - (S : Int)) = true from decide_eq_true (by omega)] at hl2'
  have HL2' := Lib.hid hl2'
  clear hl2 hl3 hl2'
  by_cases hq : 20 < (N : Int) - (S : Int)
  all_goals
    first | rw [decide_eq_true hq] | rw [decide_eq_false hq]
    go_wp2_with fail
    refine HIs6.out.mono ?_
    rintro e w8 hv8
    obtain ⟨rfl, hb8⟩ := hv8.below
    have HB8 := Lib.hid hb8
    clear hv8 hb8
    rw [show (lkd S).up = false from rfl]
    go_wp2_with fail
    refine (HL2'.out _ HB8.out).mono ?_
    rintro e w9 ⟨rfl, rfl⟩
    go_wp2_with fail
    refine (HL3.out _ HB8.out).mono ?_
    rintro e w10 ⟨rfl, rfl⟩
    have HS10 := Lib.hid (HS6.out.on HB8.out)
    have hb10 := below_on HB6.out HB8.out
    have hzw10 : wl.heap.size ≤ w10.heap.size := by have := HB8.out.size; omega
    have hup := up_any es _ w10 L G I _ _ (lkd S) 0 wl (HE.out.r.step HBl.out) hb10 (HS10.out.low hzw10) HS10.out.open (fined S) (Nat.le_refl _) (Nat.zero_le _) HS10.out.fresh
    rw [raised] at hup
    have HUp2 := Lib.hid (show Calls Tryd.prog 43 #[.pointer (some ⟨L, 0, none⟩), .int .i64 0] w10 _ from hup)
    have HB10 := Lib.hid hb10
    clear hup hb10
    go_wp2_with fail
    refine HUp2.out.mono ?_
    rintro e w11 ⟨rfl, v11, vw11, s11, hch11, hbb11⟩
    have HB11 := Lib.hid (HS10.out.below hch11 HB10.out hzw10)
    have hlo := lost_any _ w11 L G I _ _ _ (N : Int) s11 (by omega) (by show (-9223372036854775808 : Int) ≤ (S : Int); omega)
    rw [lost_up _ _ rfl] at hlo
    have HLo2 := Lib.hid hlo
    clear s11 hch11 hbb11 hlo
    go_wp2_with fail
    refine HLo2.out.mono ?_
    rintro e w12 ⟨rfl, rfl⟩
    go_wp2_with fail
    go_ret
    exact ⟨rfl, below_on HBl.out HB11.out⟩
end Go.Proofs.YtipgimmgjdgdeaaDoor
