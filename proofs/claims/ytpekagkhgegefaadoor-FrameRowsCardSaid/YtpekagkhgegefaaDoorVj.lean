/- Walk of the statement FrameRows. -/
import Derived.Test.YtpekagkhgegefaaDoorVg
import Derived.Deep.RegionHeld3
set_option linter.unusedVariables false
set_option linter.unusedSimpArgs false
set_option linter.unnecessarySimpa false
namespace Go.Proofs.YtpekagkhgegefaaDoor
open Go.RowKit
attribute [local go_sem] run_store_flt

theorem rows_keep {w3 w' : World} {b1 b3 : Nat} {f g : Fr} {A : Option Addr} {c : Nat} (h1 : FrC w3 b1 f A c) (h3 : FrC w3 b3 g A c) (l1 : b1 < w3.heap.size) (l3 : b3 < w3.heap.size) (hb : Below w3.heap.size w3 w') :
    w'.cell? ⟨b1, 0, none⟩ = some (.int .i64 f.kind) ∧ w'.cell? ⟨b1, 1, none⟩ = some (.int .i64 f.seq) ∧
    w'.cell? ⟨b3, 0, none⟩ = some (.int .i64 g.kind) ∧ w'.cell? ⟨b3, 1, none⟩ = some (.int .i64 g.seq) ∧ w'.cell? ⟨b3, 2, none⟩ = some (.int .i64 g.got) ∧ w'.cell? ⟨b3, 3, none⟩ = some (.int .i64 g.stream) ∧
    w'.cell? ⟨b3, 4, none⟩ = some (.int .i64 g.amount) ∧ w'.cell? ⟨b3, 5, none⟩ = some (.int .i64 g.code) ∧ w'.cell? ⟨b3, 6, none⟩ = some (.string g.who) ∧ w'.cell? ⟨b3, 7, none⟩ = some (.string g.name) ∧
    w'.cell? ⟨b3, 8, none⟩ = some (.float .f64 g.weight) ∧ w'.cell? ⟨b3, 9, none⟩ = some (.slice A g.bytes.length c) := by
  have k1 := h1.on l1 hb
  have k3 := h3.on l3 hb
  exact ⟨k1.c0, k1.c1, k3.c0, k3.c1, k3.c2, k3.c3, k3.c4, k3.c5, k3.c6, k3.c7, k3.c8, k3.c9⟩
theorem RdC.bytesOf {ok : Nat → Prop} {w : World} {A : Option Addr} {b b' : Bs} (h : RdC ok w A (bvs b)) (e : b' = b) : RdC ok w A (bvs b') := by rw [e]; exact h
set_option maxRecDepth 8000 in
set_option maxHeartbeats 3200000 in
theorem rows_walk (es : Er → Addr) (w : World) (f : Fr) (A : Option Addr) (c : Nat) (hE : FEnv w es) (hl : f.lens) (hA : RdC (· < w.heap.size) w A (bvs f.bytes)) :
    Calls Tryd.prog 4 #[frV f A c] w (OkPost w) := by
  obtain ⟨w1, hw1, hb1, hs1, hf1⟩ := box_world w f A c
  have hal : Calls Tryd.prog 14 #[] (w.alloc (Obj.cells (frCs f A c) 25)) (OkPost w1) := by rw [← hw1]; exact alive05 es w1 (hE.step hb1)
  have HAl := Lib.hid hal
  have HB1 := Lib.hid hb1
  have HS1 := Lib.hid hs1
  have HF1 := Lib.hid hf1
  have HE := Lib.hid hE
  have HA := Lib.hid hA
  have HLn := Lib.hid hl
  clear hw1 hb1 hal hE hA hl hs1 hf1
  unfold frV
  go_enter Tryd.func4, Tryd.ntmps4
  go_wp2_with fail
  refine HAl.out.mono ?_
  rintro e w2 ⟨rfl, hb2⟩
  have HB2 := Lib.hid (below_on HB1.out hb2)
  have HF2 := Lib.hid (HF1.out.on (by rw [HS1.out]; omega) hb2)
  have hz2 : w.heap.size + 1 ≤ w2.heap.size := by rw [← HS1.out]; exact hb2.size
  clear hb2
  have hck := checkF_any es f A c w2 (HE.out.step HB2.out) HLn.out (HA.out.step HB2.out)
  obtain ⟨c0, c1, c2, c3, c4, c5, c6, c7, c8, c9⟩ := HF2.out
  cases hc : checkF f with
  | false =>
    have hck2 : Calls Tryd.prog 15 #[frV f A c] w2 (fun e w' => e = .returned (errV (es .frame)) ∧ Below w2.heap.size w2 w') := hck.mono fun e w' h => ⟨by have := h.1; rw [if_neg (by rw [hc]; simp)] at this; exact this, h.2⟩
    have HCk := Lib.hid hck2
    clear hck hck2 hc
    go_wp2_with fail
    refine HCk.out.mono ?_
    rintro e w3 ⟨rfl, hb3⟩
    have HB3 := Lib.hid (below_on HB2.out hb3)
    clear hb3 c0 c1 c2 c3 c4 c5 c6 c7 c8 c9
    unfold errV
    go_wp2_with fail
    go_ret
    exact ⟨rfl, HB3.out⟩
  | true =>
    have hck2 : Calls Tryd.prog 15 #[frV f A c] w2 (fun e w' => e = .returned .nilIface ∧ Below w2.heap.size w2 w') := hck.mono fun e w' h => ⟨by have := h.1; rw [if_pos hc] at this; exact this, h.2⟩
    have HCk := Lib.hid hck2
    obtain ⟨hr1, hr2⟩ := row_seq hc
    have HR1 := Lib.hid hr1
    have HR2 := Lib.hid hr2
    clear hck hck2 hc hr1 hr2
    go_wp2_with fail
    refine HCk.out.mono ?_
    rintro e w3 ⟨rfl, hb3⟩
    have HB3 := Lib.hid (below_on HB2.out hb3)
    have HF3 := Lib.hid (HF2.out.on (by omega) hb3)
    have hz3 : w.heap.size + 1 ≤ w3.heap.size := by have := hb3.size; omega
    clear hb3 c0 c1 c2 c3 c4 c5 c6 c7 c8 c9
    obtain ⟨c0, c1, c2, c3, c4, c5, c6, c7, c8, c9⟩ := HF3.out
    go_wp2_with fail
    obtain ⟨w4, hw4⟩ : ∃ W, W = w3.alloc (Obj.cells (frCs { f with seq := 0 } A c) 25) := ⟨_, rfl⟩
    have hb4 : Below w3.heap.size w3 w4 := by rw [hw4]; exact below_box _ _
    have hs4 : w4.heap.size = w3.heap.size + 1 := by rw [hw4]; simp
    have hg4 : FrC w4 w3.heap.size { f with seq := 0 } A c := by rw [hw4]; exact FrC.box w3 _ A c _
    have hf4 := HF3.out.on (by omega) hb4
    rw [show w3.alloc (Obj.cells #[.int .i64 f.kind, .int .i64 0, .int .i64 f.got, .int .i64 f.stream, .int .i64 f.amount, .int .i64 f.code, .string f.who, .string f.name, .float .f64 f.weight, .slice A f.bytes.length c] 25) = w4 from hw4.symm]
    have HB4 := Lib.hid (below_on HB3.out hb4)
    have HG4 := Lib.hid hg4
    have HF4 := Lib.hid hf4
    have HS4 := Lib.hid hs4
    have HZ := Lib.hid (show w.heap.size < w4.heap.size ∧ w3.heap.size < w4.heap.size from ⟨by omega, by omega⟩)
    have hcg : ∀ W, Below w4.heap.size w4 W → Calls Tryd.prog 15 #[frV { f with seq := 0 } A c] W (CheckFP es { f with seq := 0 } W) := fun W hW =>
      checkF_any es _ A c W (HE.out.step (below_on HB4.out hW)) ⟨HLn.out.who, HLn.out.name, HLn.out.bytes⟩ (HA.out.step (below_on HB4.out hW))
    have hrow := fun W => row_any f.kind W
    have HCg := Lib.hid hcg
    clear hw4 hb4 hs4 c0 c1 c2 c3 c4 c5 c6 c7 c8 c9 hz2 hz3 hcg hg4
    obtain ⟨a0, a1, _, _, _, _, _, _, _, _⟩ := hf4
    obtain ⟨c0, c1, c2, c3, c4, c5, c6, c7, c8, c9⟩ := HG4.out
    simp only at c0 c1 c2 c3 c4 c5 c6 c7 c8 c9
    cases hr : rowF f.kind with
    | true =>
      rw [hr] at hrow
      have hlt : 0 < f.seq := by have h := HR1.out; rw [hr] at h; exact of_decide_eq_true h.symm
      have hlt2 : decide (0 < f.seq) = true := decide_eq_true hlt
      have HCg2 : Hid (∀ W, Below w4.heap.size w4 W → Calls Tryd.prog 15 #[frV { f with seq := 0 } A c] W (fun e w' => e = .returned (errV (es .frame)) ∧ Below W.heap.size W w')) :=
        Lib.hid (fun W hW => (HCg.out W hW).mono fun e w' h => ⟨by have h1 := h.1; rw [if_neg (by rw [HR2.out, hr]; simp)] at h1; exact h1, h.2⟩)
      have HRw := Lib.hid hrow
      clear hr hrow hlt
      unfold frV errV at HCg2
      go_region_held3 (fun w' => w'.cell? ⟨w.heap.size, 0, none⟩ = some (.int .i64 f.kind) ∧ w'.cell? ⟨w.heap.size, 1, none⟩ = some (.int .i64 f.seq) ∧ w'.cell? ⟨w3.heap.size, 0, none⟩ = some (.int .i64 f.kind) ∧ w'.cell? ⟨w3.heap.size, 1, none⟩ = some (.int .i64 0) ∧ w'.cell? ⟨w3.heap.size, 2, none⟩ = some (.int .i64 f.got) ∧ w'.cell? ⟨w3.heap.size, 3, none⟩ = some (.int .i64 f.stream) ∧ w'.cell? ⟨w3.heap.size, 4, none⟩ = some (.int .i64 f.amount) ∧ w'.cell? ⟨w3.heap.size, 5, none⟩ = some (.int .i64 f.code) ∧ w'.cell? ⟨w3.heap.size, 6, none⟩ = some (.string f.who) ∧ w'.cell? ⟨w3.heap.size, 7, none⟩ = some (.string f.name) ∧ w'.cell? ⟨w3.heap.size, 8, none⟩ = some (.float .f64 f.weight) ∧ w'.cell? ⟨w3.heap.size, 9, none⟩ = some (.slice A f.bytes.length c))
        (first | go_keep | exact rows_keep HF4.out HG4.out HZ.out.1 HZ.out.2 ((Below.refl _ _).drew.trans hb9))
        (first
          | (go_at_call 18; refine (HRw.out _).mono ?_; rintro e w' ⟨rfl, rfl⟩)
          | (go_at_call 15; refine (HCg2.out _ (by exact (Below.refl _ _).drew)).mono ?_; rintro e w9 ⟨rfl, hb9⟩))
      have HB9 := Lib.hid (below_on HB4.out ((Below.refl _ _).drew.trans hb9))
      clear hb9
      go_wp2_with fail
      go_ret
      exact ⟨rfl, HB9.out⟩
    | false =>
      rw [hr] at hrow
      have hlt : ¬ 0 < f.seq := by have h := HR1.out; rw [hr] at h; exact of_decide_eq_false h.symm
      have hlt2 : decide (0 < f.seq) = false := decide_eq_false hlt
      have HCg2 : Hid (∀ W, Below w4.heap.size w4 W → Calls Tryd.prog 15 #[frV { f with seq := 0 } A c] W (fun e w' => e = .returned .nilIface ∧ Below W.heap.size W w')) :=
        Lib.hid (fun W hW => (HCg.out W hW).mono fun e w' h => ⟨by have h1 := h.1; rw [if_pos (by rw [HR2.out, hr]; rfl)] at h1; exact h1, h.2⟩)
      have HRw := Lib.hid hrow
      clear hr hrow hlt
      unfold frV at HCg2
      go_region_held3 (fun w' => w'.cell? ⟨w.heap.size, 0, none⟩ = some (.int .i64 f.kind) ∧ w'.cell? ⟨w.heap.size, 1, none⟩ = some (.int .i64 f.seq) ∧ w'.cell? ⟨w3.heap.size, 0, none⟩ = some (.int .i64 f.kind) ∧ w'.cell? ⟨w3.heap.size, 1, none⟩ = some (.int .i64 0) ∧ w'.cell? ⟨w3.heap.size, 2, none⟩ = some (.int .i64 f.got) ∧ w'.cell? ⟨w3.heap.size, 3, none⟩ = some (.int .i64 f.stream) ∧ w'.cell? ⟨w3.heap.size, 4, none⟩ = some (.int .i64 f.amount) ∧ w'.cell? ⟨w3.heap.size, 5, none⟩ = some (.int .i64 f.code) ∧ w'.cell? ⟨w3.heap.size, 6, none⟩ = some (.string f.who) ∧ w'.cell? ⟨w3.heap.size, 7, none⟩ = some (.string f.name) ∧ w'.cell? ⟨w3.heap.size, 8, none⟩ = some (.float .f64 f.weight) ∧ w'.cell? ⟨w3.heap.size, 9, none⟩ = some (.slice A f.bytes.length c))
        (first | go_keep | exact rows_keep HF4.out HG4.out HZ.out.1 HZ.out.2 ((Below.refl _ _).drew.trans hb9))
        (first
          | (go_at_call 18; refine (HRw.out _).mono ?_; rintro e w' ⟨rfl, rfl⟩)
          | (go_at_call 15; refine (HCg2.out _ (by exact (Below.refl _ _).drew)).mono ?_; rintro e w9 ⟨rfl, hb9⟩))
      have HB9 := Lib.hid (below_on HB4.out ((Below.refl _ _).drew.trans hb9))
      clear hb9
      go_wp2_with fail
      go_ret
      exact ⟨rfl, HB9.out⟩
end Go.Proofs.YtpekagkhgegefaaDoor
