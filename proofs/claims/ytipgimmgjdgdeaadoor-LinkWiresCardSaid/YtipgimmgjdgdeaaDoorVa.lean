/- Walks of package frame, fourth part: Same (printed by gen_va.py). -/
import Derived.Test.YtipgimmgjdgdeaaDoorVy
set_option linter.unusedVariables false
set_option linter.unusedSimpArgs false
set_option linter.unnecessarySimpa false
namespace Go.Proofs.YtipgimmgjdgdeaaDoor
open Go.RowKit

/-- string(f.Bytes) in any world above. -/
theorem run_str_above {w W : World} {A : Option Addr} {c : Nat} {b : Bs} (h : RdC (· < w.heap.size) w A (bvs b)) (hb : Below w.heap.size w W) (k : Nat) : (convert 31 9 (.slice A b.length c)).run Tryd.prog (W.drewN k) = .ok (.string ⟨b.toArray⟩) (W.drewN k) :=
  run_str_of Tryd.underlying31 Tryd.underlying5 Tryd.underlying9 rfl (h.step (below_drewN hb k))
theorem two_below (w : World) (o1 o2 : Obj) : Below w.heap.size w ((w.alloc o1).alloc o2) := ((Below.refl _ _).alloc (Nat.le_refl _) _).alloc (by simp) _
theorem toList_eq (a b : ByteArray) : (a.toList == b.toList) = true ↔ a = b := by
  rw [beq_iff_eq]
  constructor
  · intro h
    rw [ByteArray.toList_eq, ByteArray.toList_eq] at h
    exact ByteArray.ext (Array.toList_inj.1 h)
  · rintro rfl
    rfl
theorem same_iff (a b : Fr) : a = b ↔ (a.kind == b.kind) = true ∧ (a.seq == b.seq) = true ∧ (a.got == b.got) = true ∧ (a.stream == b.stream) = true ∧ (a.amount == b.amount) = true ∧ (a.code == b.code) = true ∧ (a.who.toList == b.who.toList) = true ∧ (a.name.toList == b.name.toList) = true ∧ ((a.weight : Int) == (b.weight : Int)) = true ∧ (a.bytes == b.bytes) = true := by
  obtain ⟨a0, a1, a2, a3, a4, a5, a6, a7, a8, a9⟩ := a
  obtain ⟨b0, b1, b2, b3, b4, b5, b6, b7, b8, b9⟩ := b
  rw [toList_eq, toList_eq]
  simp only [beq_iff_eq, Fr.mk.injEq, Int.natCast_inj]
set_option maxRecDepth 8000 in
set_option maxHeartbeats 4000000 in
theorem same_any (f g : Fr) (A B : Option Addr) (c d : Nat) (w : World) (hA : RdC (· < w.heap.size) w A (bvs f.bytes)) (hB : RdC (· < w.heap.size) w B (bvs g.bytes)) :
    Calls Tryd.prog 68 #[frV f A c, frV g B d] w (BoolP (decide (f = g)) w) := by
  have hiff := same_iff f g
  obtain ⟨r, hr⟩ : ∃ r, r = decide (f = g) := ⟨_, rfl⟩
  have hc1 := run_str_above (c := c) hA (two_below w (.cells (frCs f A c) 33) (.cells (frCs g B d) 33))
  have hc2 := run_str_above (c := d) hB (two_below w (.cells (frCs f A c) 33) (.cells (frCs g B d) 33))
  rw [← hr]
  obtain ⟨a0, a1, a2, a3, a4, a5, a6, a7, a8, a9⟩ := f
  obtain ⟨b0, b1, b2, b3, b4, b5, b6, b7, b8, b9⟩ := g
  simp only at hiff
  have hr2 : (r = true) ↔ _ := Iff.trans (by rw [hr]; exact decide_eq_true_iff) hiff
  have Hr := Lib.hid hr2
  have hfb := run_f64bits
  simp only [frCs] at hc1 hc2
  clear hA hB hiff hr hr2
  unfold frV
  go_enter Tryd.func68, Tryd.ntmps68
  go_wp2_with fail
  simp only [List.append_eq, List.cons_append, List.nil_append]
  refine wp_region_quiet_lit (by kernel_rfl) (by kernel_rfl) ?_
  cases h0 : (a0 == b0)
  case false =>
    repeat (go_big_quiet_step (fail))
    refine wpQuiet_nil ?_
    intro _ hw'
    obtain ⟨nq, hw''⟩ := hw'
    subst hw''
    have HV := Lib.hid (show r = false by cases r with | false => rfl | true => exact absurd (Hr.out.1 rfl).1 (by rw [h0]; exact Bool.false_ne_true))
    clear h0
    go_wp2_with fail
    go_ret
    exact ⟨by rw [HV.out]; rfl, below_drewN (two_below w _ _) _⟩
  case true =>
    cases h1 : (a1 == b1)
    case false =>
      repeat (go_big_quiet_step (fail))
      refine wpQuiet_nil ?_
      intro _ hw'
      obtain ⟨nq, hw''⟩ := hw'
      subst hw''
      have HV := Lib.hid (show r = false by cases r with | false => rfl | true => exact absurd (Hr.out.1 rfl).2.1 (by rw [h1]; exact Bool.false_ne_true))
      clear h0 h1
      go_wp2_with fail
      go_ret
      exact ⟨by rw [HV.out]; rfl, below_drewN (two_below w _ _) _⟩
    case true =>
      cases h2 : (a2 == b2)
      case false =>
        repeat (go_big_quiet_step (fail))
        refine wpQuiet_nil ?_
        intro _ hw'
        obtain ⟨nq, hw''⟩ := hw'
        subst hw''
        have HV := Lib.hid (show r = false by cases r with | false => rfl | true => exact absurd (Hr.out.1 rfl).2.2.1 (by rw [h2]; exact Bool.false_ne_true))
        clear h0 h1 h2
        go_wp2_with fail
        go_ret
        exact ⟨by rw [HV.out]; rfl, below_drewN (two_below w _ _) _⟩
      case true =>
        cases h3 : (a3 == b3)
        case false =>
          repeat (go_big_quiet_step (fail))
          refine wpQuiet_nil ?_
          intro _ hw'
          obtain ⟨nq, hw''⟩ := hw'
          subst hw''
          have HV := Lib.hid (show r = false by cases r with | false => rfl | true => exact absurd (Hr.out.1 rfl).2.2.2.1 (by rw [h3]; exact Bool.false_ne_true))
          clear h0 h1 h2 h3
          go_wp2_with fail
          go_ret
          exact ⟨by rw [HV.out]; rfl, below_drewN (two_below w _ _) _⟩
        case true =>
          cases h4 : (a4 == b4)
          case false =>
            repeat (go_big_quiet_step (fail))
            refine wpQuiet_nil ?_
            intro _ hw'
            obtain ⟨nq, hw''⟩ := hw'
            subst hw''
            have HV := Lib.hid (show r = false by cases r with | false => rfl | true => exact absurd (Hr.out.1 rfl).2.2.2.2.1 (by rw [h4]; exact Bool.false_ne_true))
            clear h0 h1 h2 h3 h4
            go_wp2_with fail
            go_ret
            exact ⟨by rw [HV.out]; rfl, below_drewN (two_below w _ _) _⟩
          case true =>
            cases h5 : (a5 == b5)
            case false =>
              repeat (go_big_quiet_step (fail))
              refine wpQuiet_nil ?_
              intro _ hw'
              obtain ⟨nq, hw''⟩ := hw'
              subst hw''
              have HV := Lib.hid (show r = false by cases r with | false => rfl | true => exact absurd (Hr.out.1 rfl).2.2.2.2.2.1 (by rw [h5]; exact Bool.false_ne_true))
              clear h0 h1 h2 h3 h4 h5
              go_wp2_with fail
              go_ret
              exact ⟨by rw [HV.out]; rfl, below_drewN (two_below w _ _) _⟩
            case true =>
              cases h6 : (a6.toList == b6.toList)
              case false =>
                repeat (go_big_quiet_step (fail))
                refine wpQuiet_nil ?_
                intro _ hw'
                obtain ⟨nq, hw''⟩ := hw'
                subst hw''
                have HV := Lib.hid (show r = false by cases r with | false => rfl | true => exact absurd (Hr.out.1 rfl).2.2.2.2.2.2.1 (by rw [h6]; exact Bool.false_ne_true))
                clear h0 h1 h2 h3 h4 h5 h6
                go_wp2_with fail
                go_ret
                exact ⟨by rw [HV.out]; rfl, below_drewN (two_below w _ _) _⟩
              case true =>
                cases h7 : (a7.toList == b7.toList)
                case false =>
                  repeat (go_big_quiet_step (fail))
                  refine wpQuiet_nil ?_
                  intro _ hw'
                  obtain ⟨nq, hw''⟩ := hw'
                  subst hw''
                  have HV := Lib.hid (show r = false by cases r with | false => rfl | true => exact absurd (Hr.out.1 rfl).2.2.2.2.2.2.2.1 (by rw [h7]; exact Bool.false_ne_true))
                  clear h0 h1 h2 h3 h4 h5 h6 h7
                  go_wp2_with fail
                  go_ret
                  exact ⟨by rw [HV.out]; rfl, below_drewN (two_below w _ _) _⟩
                case true =>
                  cases h8 : ((a8 : Int) == (b8 : Int))
                  case false =>
                    repeat (go_big_quiet_step (fail))
                    refine wpQuiet_nil ?_
                    intro _ hw'
                    obtain ⟨nq, hw''⟩ := hw'
                    subst hw''
                    have HV := Lib.hid (show r = false by cases r with | false => rfl | true => exact absurd (Hr.out.1 rfl).2.2.2.2.2.2.2.2.1 (by rw [h8]; exact Bool.false_ne_true))
                    clear h0 h1 h2 h3 h4 h5 h6 h7 h8
                    go_wp2_with fail
                    go_ret
                    exact ⟨by rw [HV.out]; rfl, below_drewN (two_below w _ _) _⟩
                  case true =>
                    cases h9 : (a9 == b9)
                    case false =>
                      repeat (go_big_quiet_step (fail))
                      refine wpQuiet_nil ?_
                      intro _ hw'
                      obtain ⟨nq, hw''⟩ := hw'
                      subst hw''
                      have HV := Lib.hid (show r = false by cases r with | false => rfl | true => exact absurd (Hr.out.1 rfl).2.2.2.2.2.2.2.2.2 (by rw [h9]; exact Bool.false_ne_true))
                      clear h0 h1 h2 h3 h4 h5 h6 h7 h8 h9
                      go_wp2_with fail
                      go_ret
                      exact ⟨by rw [HV.out]; rfl, below_drewN (two_below w _ _) _⟩
                    case true =>
                      repeat (go_big_quiet_step (fail))
                      refine wpQuiet_nil ?_
                      intro _ hw'
                      obtain ⟨nq, hw''⟩ := hw'
                      subst hw''
                      have HV := Lib.hid (show r = true by cases r with | true => rfl | false => exact Hr.out.2 ⟨h0, h1, h2, h3, h4, h5, h6, h7, h8, h9⟩)
                      clear h0 h1 h2 h3 h4 h5 h6 h7 h8 h9
                      go_wp2_with fail
                      go_ret
                      exact ⟨by rw [HV.out]; rfl, below_drewN (two_below w _ _) _⟩
end Go.Proofs.YtipgimmgjdgdeaaDoor
