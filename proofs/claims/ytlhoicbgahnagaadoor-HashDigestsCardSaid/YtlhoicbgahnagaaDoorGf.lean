/- Walk of the statement HashKeyed. -/
import Derived.Test.YtlhoicbgahnagaaDoorRk
set_option linter.unusedVariables false
set_option linter.unusedSimpArgs false
set_option linter.unnecessarySimpa false
namespace Go.Proofs.YtlhoicbgahnagaaDoor
open Go.RowKit

theorem RdC.bytesFront {ok : Nat → Prop} {w : World} {A : Option Addr} {a b : Bs} (h : RdC ok w A (bvs (a ++ b))) : RdC ok w A (bvs a) := by
  have := h.take a.length
  simpa [bvs, List.map_append] using this
theorem weigh_le {ps : List Bs} (h : weigh ps ≤ 20000) : ps.length ≤ 20000 ∧ ps.flatten.length ≤ 20000 := by unfold weigh at h; omega
theorem keyed_len (key b : Bs) : (keyed key b).length = 32 := by unfold keyed; exact sha_length _
theorem below_on {w w1 w2 : World} (h : Below w.heap.size w w1) (k : Below w1.heap.size w1 w2) : Below w.heap.size w w2 := h.trans (k.mono h.size)
set_option maxRecDepth 8000 in
set_option maxHeartbeats 4000000 in
theorem keyed_walk (w : World) (K PA : Option Addr) (ck pc : Nat) (key : Bs) (vs : List Value) (ps : List Bs) (hRo : RoundAt w) (hK : RdC (· < w.heap.size) w K (bvs key)) (hP : RdC (· < w.heap.size) w PA vs) (hV : RowsOf (· < w.heap.size) w vs ps)
    (hm : ∀ p ∈ ps, p.length ≤ 9223372036854775807) (hk : ps.length ≤ 9223372036854775807) (hpc : ps.length ≤ pc) (hck : key.length ≤ ck) (hlk : key.length ≤ maxLen) :
    Calls Tryd.prog 3 #[.slice K key.length ck, .slice PA ps.length pc] w (OkPost w) := by
  unfold maxLen at hlk
  have HRo := Lib.hid hRo
  have HK := Lib.hid hK
  have HP := Lib.hid hP
  have HV := Lib.hid hV
  have HM := Lib.hid hm
  clear hRo hK hP hV hm
  go_enter Tryd.func3, Tryd.ntmps3
  go_wp2_with fail
  refine (alive_any w HRo.out).mono ?_
  rintro e w0 ⟨rfl, hb0⟩
  have HB0 := Lib.hid hb0
  have HK0 := Lib.hid (HK.out.step hb0)
  have HP0 := Lib.hid (HP.out.step hb0)
  have HV0 := Lib.hid (HV.out.toBelow hb0 hb0.size)
  have HR0 := Lib.hid (HRo.out.below hb0 HRo.out.lt)
  clear hb0
  go_wp2_with fail
  refine (few_any w0 PA pc vs ps HP0.out HV0.out HM.out hk).mono ?_
  rintro e w0' ⟨few, rfl, hfew, rfl⟩
  cases few with
  | false =>
    clear hfew
    go_wp2_with fail
    go_ret
    exact ⟨rfl, HB0.out⟩
  | true =>
    obtain ⟨hp1, hp2⟩ := weigh_le (hfew rfl)
    clear hfew
    by_cases hkl : key.length ≤ 20000
    · have t1 : ¬ (20000 : Int) < (key.length : Int) := by omega
      go_wp2_with fail
      refine (bytes_any w0 K key.length ck key rfl (by omega) HK0.out).mono ?_
      rintro e w1 ⟨hb1, A1, c1, rfl, hc1, hc1m, hr1⟩
      have HB1 := Lib.hid hb1
      have HR1 := Lib.hid (hr1.mono (ok' := (· < w1.heap.size)) fun _ h => h.2)
      have HKc := Lib.hid (keyed_any w1 A1 c1 key PA pc vs ps (HR0.out.below hb1 HR0.out.lt) HR1.out.bytesFront (by omega) (HP0.out.toBelow hb1 hb1.size) (HV0.out.toBelow hb1 hb1.size) hpc (by omega) (by omega) (by omega))
      clear hb1 hr1
      go_wp2_with fail
      refine HKc.out.mono ?_
      rintro e w2 ⟨rfl, hb2⟩
      have hdl := keyed_len key ps.flatten
      generalize hD : keyed key ps.flatten = D at *
      have hi32 : (Tryd.prog.info? 27).map (·.size) = some ((bvs D).toArray).size := by rw [info32]; simp [hdl]
      have HI32 := Lib.hid hi32
      have HDl := Lib.hid hdl
      have HD := Lib.hid hD
      have HB2 := Lib.hid (HB1.out.trans (hb2.mono HB1.out.size))
      have HR2 := Lib.hid (HR1.out.step hb2)
      clear hdl hi32 hD hb2
      go_wp2_with (with_reducible refine wpList_store_new (op := ⟨none, .store 27 (.tmp 6) _, _, _, _, _⟩) rfl 27 _ _ rfl _ (bvs D).toArray _ rfl rfl (by simp; exact HDl.out.symm) HI32.out (by simpa using bv_one D) ?_)
      have hbd : BArr (w2.alloc (.cells (bvs D).toArray 27 (0, 0))) w2.heap.size 27 D := heap_alloc_new _ _
      have hb3 : Below w0.heap.size w0 (w2.alloc (.cells (bvs D).toArray 27 (0, 0))) := HB2.out.alloc HB2.out.size _
      have hb23 : Below w2.heap.size w2 (w2.alloc (.cells (bvs D).toArray 27 (0, 0))) := (Below.refl _ _).alloc (Nat.le_refl _) _
      have hr3 := HR2.out.step hb23
      generalize hg : w2.heap.size = g at *
      generalize w2.alloc (.cells (bvs D).toArray 27 (0, 0)) = w3 at *
      have hlt := hbd.lt
      have hc : Below w3.heap.size w3 w3.drew := (Below.refl _ _).drew
      have ks : ∀ W, Below w3.heap.size w3 W → (convert 22 9 (.slice (some ⟨g, 0, none⟩) 32 32)).run Tryd.prog W = .ok (.string ⟨D.toArray⟩) W := fun W hb =>
        run_str_of Tryd.underlying22 Tryd.underlying5 Tryd.underlying9 HDl.out.symm (hbd.move (hb.block _ hlt)).reads
      have kj : ∀ W, Below w3.heap.size w3 W → Calls Tryd.prog 16 #[.slice PA ps.length pc] W (JoinP W ps.flatten) := fun W hb =>
        join_any W PA pc vs ps ((HP0.out.toBelow hb3 hb3.size).toBelow hb hb.size) ((HV0.out.toBelow hb3 hb3.size).toBelow hb hb.size) (by omega) (by omega)
      have kk : ∀ W, Below w3.heap.size w3 W → RdC (· < W.heap.size) W K (bvs key) := fun W hb => (HK0.out.toBelow hb3 hb3.size).toBelow hb hb.size
      have kp : ∀ W, Below w3.heap.size w3 W → Calls Tryd.prog 17 #[.slice A1 key.length c1, .slice K key.length ck] W (OkPost W) := fun W hb =>
        kept_any W A1 K key.length c1 ck key rfl (by omega) hc1 (hr3.step hb) (kk W hb)
      have HS := Lib.hid ks
      have HJ := Lib.hid kj
      have HKk := Lib.hid kk
      have HKp := Lib.hid kp
      have HB3 := Lib.hid (HB0.out.trans (hb3.mono HB0.out.size))
      clear hbd hb3 hb23 hr3 ks kj kk kp hg
      generalize ps.flatten = fl at *
      go_region_held (fun W => (convert 22 9 (.slice (some ⟨g, 0, none⟩) 32 32)).run Tryd.prog W = .ok (.string ⟨D.toArray⟩) W)
        (first | exact HS.out _ (by assumption) | exact HS.out _ (Below.refl _ _))
        (first
          | (go_at_call 14; refine (new_any _).mono ?_; rintro e w5 ⟨Hn, va, vb, rfl, hT, hbn⟩; have hc5 := below_on (w := w3) (by assumption) hbn)
          | (go_at_call 16; refine (HJ.out _ (by assumption)).mono ?_; rintro e w6 ⟨vj, rfl, hoj, hbj⟩; obtain ⟨AJ, cj, rfl, _, _⟩ := own_slice hoj; have hrj := (RdC.of_own hoj).mono (ok' := (· < w6.heap.size)) (fun _ h => h.2); have hc6 := below_on (w := w3) (by assumption) hbj)
          | (go_at_call 15; refine (rkeyed_any _ Hn va vb _ K AJ ck cj key fl (by first | exact hT | exact hT.below hbj) (HKk.out _ (by assumption)) (by first | exact hrj | exact hrj.step hbn) (by omega) (by omega)).mono ?_; rintro e w7 ⟨v7, rfl, ho7, hb7⟩; obtain ⟨A7, c7, rfl, _, _⟩ := own_slice ho7; rw [HD.out] at ho7; have h70 : (convert 22 9 (.slice A7 32 c7)).run Tryd.prog w7 = .ok (.string ⟨D.toArray⟩) w7 := run_str_of Tryd.underlying22 Tryd.underlying5 Tryd.underlying9 HDl.out.symm (RdC.of_own ho7); have hc7 := below_on (w := w3) (by assumption) hb7)
          | (go_at_call 17; refine (HKp.out _ (by assumption)).mono ?_; rintro e w8 ⟨rfl, hb8⟩; have hc8 := below_on (w := w3) (by assumption) hb8))
      all_goals (
        have HB8 := Lib.hid (HB3.out.trans (hc8.mono HB3.out.size))
        clear h70 hc8
        go_wp2_with fail
        go_ret
        exact ⟨rfl, HB8.out⟩)
    · have t1 : (20000 : Int) < (key.length : Int) := by omega
      go_wp2_with fail
      go_ret
      exact ⟨rfl, HB0.out⟩
end Go.Proofs.YtlhoicbgahnagaaDoor
