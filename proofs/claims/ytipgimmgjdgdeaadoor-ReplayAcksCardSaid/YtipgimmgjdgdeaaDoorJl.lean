/- Walk of the statement ReplayOnce. -/
import Derived.Test.YtipgimmgjdgdeaaDoorJk
set_option linter.unusedVariables false
set_option linter.unusedSimpArgs false
set_option linter.unnecessarySimpa false
namespace Go.Proofs.YtipgimmgjdgdeaaDoor
open Go.RowKit
attribute [local go_sem] run_store_flt

theorem run_err_neq' (a : Addr) (w : World) : (binOp .neq 35 (.iface 160 (.pointer (some a))) (.iface 160 (.pointer (some a)))).run Tryd.prog w = .ok (.bool false) w := by
  obtain ⟨i, hi, hc⟩ := Option.map_eq_some_iff.1 infoErr
  obtain ⟨j, hj, hs⟩ := Option.map_eq_some_iff.1 infoErrS
  simp only [binOp]
  simp [Op.equal, Op.maxDepth, run_equalIn_iface_ptr_same w 9998 a Tryd.underlying35 Tryd.underlying160 hi hc hj]
def intVs (zs : List Int) : List Value := zs.map (Value.int .i64)
theorem intVs_get (zs : List Int) (i : Nat) (h : i < zs.length) : (intVs zs)[i]? = some (.int .i64 zs[i]) := by simp [intVs, h]
theorem TakeRP.then {es : Er → Addr} {w w' : World} {G got B : Nat} {f : Fr} {e : Ending} (h : TakeRP es w G got f e w') (hi : InAt w G got) (hB : B ≤ G) : e = .returned (.tuple #[.bool (takeB (takeR got f)), takeE es (takeR got f)]) ∧ InAt w' G (gotR got f) ∧ Below B w w' := by
  obtain ⟨h1, w1, hb, rfl⟩ := h
  have hl := hi.lt
  refine ⟨h1, ?_, Below.setCell (hb.mono (by omega)) (by exact hB) _⟩
  have h2 := (hb.block G hl).trans hi
  unfold InAt
  rw [heap_setCell_same _ _ 0 _ _ _ h2]
  rfl
theorem take_bad {g : Nat} {s : Int} (h : s < 1 ∨ s > 1099511627776) : takeR g (endF s 1) = .error .frame := by
  unfold takeR
  rw [if_neg]
  rintro ⟨_, h2⟩
  rw [end_check] at h2
  simp [withinF] at h2
  omega
theorem take_in {s : Int} (h : ¬ (s < 1 ∨ s > 1099511627776)) : rowF (endF s 1).kind = true ∧ checkF (endF s 1) = true := by
  refine ⟨rfl, ?_⟩
  rw [end_check]
  simp [withinF]
  omega
theorem take_next {g : Nat} {s : Int} (h : ¬ (s < 1 ∨ s > 1099511627776)) (hs : s = (g : Int) + 1) : takeR g (endF s 1) = .ok true := by
  unfold takeR
  rw [if_pos (take_in h), if_neg (by show ¬ s > _; omega), if_neg (by show ¬ s ≤ _; omega)]
theorem take_old {g : Nat} {s : Int} (h : ¬ (s < 1 ∨ s > 1099511627776)) (hs : s ≤ (g : Int)) : takeR g (endF s 1) = .ok false := by
  unfold takeR
  rw [if_pos (take_in h), if_neg (by show ¬ s > _; omega), if_pos (by show s ≤ _; omega)]
theorem take_far {g : Nat} {s : Int} (h : ¬ (s < 1 ∨ s > 1099511627776)) (hs : s > (g : Int) + 1) : takeR g (endF s 1) = .error .gap := by
  unfold takeR
  rw [if_pos (take_in h), if_pos (by show s > _; omega)]
set_option maxRecDepth 8000 in
set_option maxHeartbeats 6400000 in
theorem once_walk (es : Er → Addr) (w : World) (A : Option Addr) (c : Nat) (zs : List Int) (hE : REnv w es) (hR : RdC (· < w.heap.size) w A (intVs zs)) (hc : zs.length ≤ 9223372036854775807) :
    Calls Tryd.prog 5 #[.slice A zs.length c] w (OkPost w) := by
  have HAl := Lib.hid (alive11 es w hE)
  have HE := Lib.hid hE
  have HR := Lib.hid hR
  have hen := run_err_neq'
  clear hE hR
  go_enter Tryd.func5, Tryd.ntmps5
  go_wp2_with fail
  refine HAl.out.mono ?_
  rintro e w1 ⟨rfl, hb1⟩
  have HB1 := Lib.hid hb1
  have HNi := Lib.hid (newIn_any w1)
  clear hb1
  go_wp2_with fail
  refine HNi.out.mono ?_
  rintro e w2 ⟨rfl, hb2, hs2, hi2⟩
  have HI2 := Lib.hid hi2
  have HB2 := Lib.hid hb2
  have hz1 : w.heap.size ≤ w1.heap.size := HB1.out.size
  clear hb2 hi2
  go_wp2_with fail
  go_loopw [4, 14] (fun gv iv wr => ∃ (i g : Nat), i ≤ zs.length ∧ iv = .int .i64 i ∧ gv = .int .i64 g ∧ g ≤ 1099511627776 ∧ InAt wr w1.heap.size g ∧ Below w1.heap.size w1 wr) (fun _ iv _ => zs.length - (intOf iv).toNat)
  case atStart => exact ⟨0, 0, Nat.zero_le _, rfl, rfl, by omega, HI2.out, HB2.out⟩
  case round =>
    obtain ⟨i, g, hi, rfl, rfl, hg, hin, hbel⟩ := hrel
    have HIn := Lib.hid hin
    have HBel := Lib.hid hbel
    have hBw := below_on HB1.out hbel
    have HBw := Lib.hid hBw
    by_cases hlt : i < zs.length
    · have hrd := HR.out.step hBw
      obtain ⟨ad, rfl, hadb, hcc⟩ := hrd (by intro e; have : zs = [] := List.map_eq_nil_iff.1 e; subst this; simp at hlt)
      have hcell := hcc i _ (intVs_get zs i hlt)
      generalize zs[i] = s at *
      have j0 : (0 : Int) ≤ (i : Int) := by omega
      have j1 : (i : Int) < (zs.length : Int) := by omega
      have j3 : IntKind.i64.wrap ((i : Int) + 1) = (i : Int) + 1 := IntWalk.i64_in _ (by omega)
      have j4 : IntKind.i64.wrap ((g : Int) + 1) = (g : Int) + 1 := IntWalk.i64_in _ (by omega)
      have htk := (rtake_any es wr w1.heap.size g (endF s 1) none 0 (HE.out.step hBw) hin hg (end_lens _ _) (RdC.nil _ _ _)).mono fun e w' h => h.then (B := w1.heap.size) hin (Nat.le_refl _)
      have HTk := Lib.hid (show Calls Tryd.prog 19 #[.pointer (some ⟨w1.heap.size, 0, none⟩), .agg #[.int .i64 11, .int .i64 s, .int .i64 0, .int .i64 1, .int .i64 0, .int .i64 0, .string ⟨#[]⟩, .string ⟨#[]⟩, .float .f64 0, .slice none 0 0]] wr _ from htk)
      clear hrd hcc htk hin hbel hBw
      by_cases h300 : 300 < i
      · have k0 : (300 : Int) < (i : Int) := by omega
        go_wp2_with fail
        go_ret
        exact ⟨rfl, HBw.out⟩
      · have k0 : ¬ (300 : Int) < (i : Int) := by omega
        clear h300
        by_cases hbad : s < 1 ∨ s > 1099511627776
        · have HT := Lib.hid (take_bad (g := g) hbad)
          have hgr : gotR g (endF s 1) = g := by unfold gotR; rw [HT.out]
          have HTk2 := Lib.hid (HTk.out.mono fun e w' h => (show e = .returned (.tuple #[.bool false, errV (es .frame)]) ∧ InAt w' w1.heap.size g ∧ Below w1.heap.size wr w' by rw [HT.out, hgr] at h; exact h))
          clear hgr HTk
          by_cases h1 : s < 1
          · clear hbad
            go_wp2_with fail
            refine HTk2.out.mono ?_
            rintro e w3 ⟨rfl, hi3, hb3⟩
            have HI3 := Lib.hid hi3
            have HB3 := Lib.hid (HBel.out.trans hb3)
            have HGo := Lib.hid (got_any w3 w1.heap.size g hi3)
            have he := ((HE.out.step (below_on HB1.out HB3.out)).fenv.frame).at
            unfold errV at he
            clear hi3 hb3 HTk2
            unfold errV
            go_wp2_with fail
            refine HGo.out.mono ?_
            rintro e w4 ⟨rfl, n4, hw4⟩
            have HB4 := Lib.hid (show Below w1.heap.size w1 w4 by rw [hw4]; exact below_drewN HB3.out _)
            have HI4 := Lib.hid (show InAt w4 w1.heap.size g by rw [hw4]; exact HI3.out)
            clear hw4
            go_wp2_with fail
            go_roundw
            case rel => exact ⟨i + 1, g, by omega, by go_num, rfl, hg, HI4.out, HB4.out⟩
            case measure => simp [intOf]; omega
          · have h2 : (1099511627776 : Int) < s := by omega
            clear hbad
            go_wp2_with fail
            refine HTk2.out.mono ?_
            rintro e w3 ⟨rfl, hi3, hb3⟩
            have HI3 := Lib.hid hi3
            have HB3 := Lib.hid (HBel.out.trans hb3)
            have HGo := Lib.hid (got_any w3 w1.heap.size g hi3)
            have he := ((HE.out.step (below_on HB1.out HB3.out)).fenv.frame).at
            unfold errV at he
            clear hi3 hb3 HTk2
            unfold errV
            go_wp2_with fail
            refine HGo.out.mono ?_
            rintro e w4 ⟨rfl, n4, hw4⟩
            have HB4 := Lib.hid (show Below w1.heap.size w1 w4 by rw [hw4]; exact below_drewN HB3.out _)
            have HI4 := Lib.hid (show InAt w4 w1.heap.size g by rw [hw4]; exact HI3.out)
            clear hw4
            go_wp2_with fail
            go_roundw
            case rel => exact ⟨i + 1, g, by omega, by go_num, rfl, hg, HI4.out, HB4.out⟩
            case measure => simp [intOf]; omega
        · have h1 : ¬ s < 1 := by omega
          have h2 : ¬ (1099511627776 : Int) < s := by omega
          by_cases hnx : s = (g : Int) + 1
          · have HT := Lib.hid (take_next hbad hnx)
            have hgr : gotR g (endF s 1) = g + 1 := by unfold gotR; rw [HT.out]
            have HTk2 := Lib.hid (HTk.out.mono fun e w' h => (show e = .returned (.tuple #[.bool true, .nilIface]) ∧ InAt w' w1.heap.size (g + 1) ∧ Below w1.heap.size wr w' by rw [HT.out, hgr] at h; exact h))
            have k1 : (s == (g : Int) + 1) = true := by rw [beq_iff_eq]; exact hnx
            have hgm : g + 1 ≤ 1099511627776 := by omega
            clear hgr HTk hbad hnx
            go_wp2_with fail
            refine HTk2.out.mono ?_
            rintro e w3 ⟨rfl, hi3, hb3⟩
            have HI3 := Lib.hid hi3
            have HB3 := Lib.hid (HBel.out.trans hb3)
            have HGo := Lib.hid (got_any w3 w1.heap.size (g + 1) hi3)
            clear hi3 hb3 HTk2
            go_wp2_with fail
            refine HGo.out.mono ?_
            rintro e w4 ⟨rfl, n4, hw4⟩
            have HB4 := Lib.hid (show Below w1.heap.size w1 w4 by rw [hw4]; exact below_drewN HB3.out _)
            have HI4 := Lib.hid (show InAt w4 w1.heap.size (g + 1) by rw [hw4]; exact HI3.out)
            clear hw4
            go_wp2_with fail
            go_roundw
            case rel => exact ⟨i + 1, g + 1, by omega, by go_num, by go_num, by omega, HI4.out, HB4.out⟩
            case measure => simp [intOf]; omega
          · have k1 : (s == (g : Int) + 1) = false := by rw [beq_eq_false_iff_ne]; exact hnx
            by_cases hle : s ≤ (g : Int)
            · have HT := Lib.hid (take_old hbad hle)
              have hgr : gotR g (endF s 1) = g := by unfold gotR; rw [HT.out]
              have HTk2 := Lib.hid (HTk.out.mono fun e w' h => (show e = .returned (.tuple #[.bool false, .nilIface]) ∧ InAt w' w1.heap.size g ∧ Below w1.heap.size wr w' by rw [HT.out, hgr] at h; exact h))
              clear hgr HTk hbad hnx
              go_wp2_with fail
              refine HTk2.out.mono ?_
              rintro e w3 ⟨rfl, hi3, hb3⟩
              have HI3 := Lib.hid hi3
              have HB3 := Lib.hid (HBel.out.trans hb3)
              have HGo := Lib.hid (got_any w3 w1.heap.size g hi3)
              clear hi3 hb3 HTk2
              go_wp2_with fail
              refine HGo.out.mono ?_
              rintro e w4 ⟨rfl, n4, hw4⟩
              have HB4 := Lib.hid (show Below w1.heap.size w1 w4 by rw [hw4]; exact below_drewN HB3.out _)
              have HI4 := Lib.hid (show InAt w4 w1.heap.size g by rw [hw4]; exact HI3.out)
              clear hw4
              go_wp2_with fail
              go_roundw
              case rel => exact ⟨i + 1, g, by omega, by go_num, rfl, hg, HI4.out, HB4.out⟩
              case measure => simp [intOf]; omega
            · have HT := Lib.hid (take_far (g := g) hbad (by omega))
              have hgr : gotR g (endF s 1) = g := by unfold gotR; rw [HT.out]
              have HTk2 := Lib.hid (HTk.out.mono fun e w' h => (show e = .returned (.tuple #[.bool false, errV (es .gap)]) ∧ InAt w' w1.heap.size g ∧ Below w1.heap.size wr w' by rw [HT.out, hgr] at h; exact h))
              clear hgr HTk hbad hnx
              go_wp2_with fail
              refine HTk2.out.mono ?_
              rintro e w3 ⟨rfl, hi3, hb3⟩
              have HI3 := Lib.hid hi3
              have HB3 := Lib.hid (HBel.out.trans hb3)
              have HGo := Lib.hid (got_any w3 w1.heap.size g hi3)
              have he := ((HE.out.step (below_on HB1.out HB3.out)).gap).at
              unfold errV at he
              clear hi3 hb3 HTk2
              unfold errV
              go_wp2_with fail
              refine HGo.out.mono ?_
              rintro e w4 ⟨rfl, n4, hw4⟩
              have HB4 := Lib.hid (show Below w1.heap.size w1 w4 by rw [hw4]; exact below_drewN HB3.out _)
              have HI4 := Lib.hid (show InAt w4 w1.heap.size g by rw [hw4]; exact HI3.out)
              clear hw4
              go_wp2_with fail
              go_roundw
              case rel => exact ⟨i + 1, g, by omega, by go_num, rfl, hg, HI4.out, HB4.out⟩
              case measure => simp [intOf]; omega
    · have hii : i = zs.length := by omega
      have j1 : ¬ (i : Int) < (zs.length : Int) := by omega
      clear hin hbel hBw
      go_wp2_with fail
      go_ret
      exact ⟨rfl, HBw.out⟩
end Go.Proofs.YtipgimmgjdgdeaaDoor
