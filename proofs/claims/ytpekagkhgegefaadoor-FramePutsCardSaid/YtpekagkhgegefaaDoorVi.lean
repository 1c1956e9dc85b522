/- Walk of the statement FramePuts (printed by gen_vi.py). -/
import Derived.Test.YtpekagkhgegefaaDoorVv
import Derived.Test.YtpekagkhgegefaaDoorMi
set_option linter.unusedVariables false
set_option linter.unusedSimpArgs false
set_option linter.unnecessarySimpa false
namespace Go.Proofs.YtpekagkhgegefaaDoor
open Go.RowKit
attribute [local go_sem] run_store_flt

set_option maxRecDepth 8000 in
set_option maxHeartbeats 8000000 in
theorem puts_yes (es : Er → Addr) (w : World) (f : Fr) (A : Option Addr) (c : Nat) (hE : GEnv w es) (h18 : E18 w.heap.size w es) (hl : f.lens) (hf : f.fits) (hA : RdC (· < w.heap.size) w A (bvs f.bytes)) (hck : checkF f = true) :
    Calls Tryd.prog 9 #[frV f A c] w (OkPost w) := by
  obtain ⟨w1, hw1, hb1, hs1, hf1⟩ := box_world w f A c
  have hal : Calls Tryd.prog 14 #[] (w.alloc (Obj.cells (frCs f A c) 25)) (OkPost w1) := by rw [← hw1]; exact alive05 es w1 (hE.step hb1).fenv
  have HAl := Lib.hid hal
  have HB1 := Lib.hid hb1
  have HS1 := Lib.hid hs1
  have HF1 := Lib.hid hf1
  have HE := Lib.hid hE
  have H18 := Lib.hid h18
  have HA := Lib.hid hA
  have HLn := Lib.hid hl
  have HFt := Lib.hid hf
  have HCk := Lib.hid hck
  have hee := run_err_same
  have hen := run_err_neq_same
  clear hw1 hb1 hal hE hA hl hs1 hf1 hck h18 hf
  unfold frV
  go_enter Tryd.func9, Tryd.ntmps9
  go_wp2_with fail
  refine HAl.out.mono ?_
  rintro e w2 ⟨rfl, hb2⟩
  have HB2 := Lib.hid (below_on HB1.out hb2)
  have HF2 := Lib.hid (HF1.out.on (by rw [HS1.out]; omega) hb2)
  have hz2 : w.heap.size + 1 ≤ w2.heap.size := by rw [← HS1.out]; exact hb2.size
  obtain ⟨c0, c1, c2, c3, c4, c5, c6, c7, c8, c9⟩ := HF2.out
  have hp := (putF_any es f A c w2 (HE.out.step HB2.out).fenv HLn.out (HA.out.step HB2.out)).mono fun e w' h => h.ok HCk.out
  have HP := Lib.hid hp
  clear hb2 hp
  unfold frV at HP
  go_wp2_with fail
  refine HP.out.mono ?_
  rintro e w3 ⟨hb3, B, cb, rfl, hcb, hob⟩
  have HB3 := Lib.hid (below_on HB2.out hb3)
  have HF3 := Lib.hid (HF2.out.on (by omega) hb3)
  have hlt3 : w.heap.size < w3.heap.size := by have := hb3.size; omega
  have HOb := Lib.hid ((RdC.of_own hob).mono (ok' := (· < w3.heap.size)) (fun k hk => hk.2))
  have hp7 : 7 ≤ (putF f).length := by have := put_len f; have := body_len HCk.out; omega
  have hp6 : (putF f).length ≤ 607 := by have := put_len f; have := body_len HCk.out; omega
  have HGp := Lib.hid (get_put HCk.out HFt.out.1 HFt.out.2)
  have hrp : ∀ W H va vb base, Below w3.heap.size w3 W → TableAt base W H va vb → Calls Tryd.prog 36 #[.pointer (some ⟨H, 0, none⟩), frV f A c] W _ := fun W H va vb base hW hT =>
    (rput_any f A c W H base va vb hT HLn.out HFt.out.1 ((HA.out.step HB3.out).step hW)).mono fun e w' h => h.ok HCk.out
  generalize putF f = P at *
  have HRp := Lib.hid hrp
  clear hrp hb3 HP c0 c1 c2 c3 c4 c5 c6 c7 c8 c9 hob
  obtain ⟨c0, c1, c2, c3, c4, c5, c6, c7, c8, c9⟩ := HF3.out
  go_wp2_with fail
  go_region_held3 (fun w' => w'.cell? ⟨w.heap.size, 0, none⟩ = some (.int .i64 f.kind) ∧ w'.cell? ⟨w.heap.size, 1, none⟩ = some (.int .i64 f.seq) ∧ w'.cell? ⟨w.heap.size, 2, none⟩ = some (.int .i64 f.got) ∧ w'.cell? ⟨w.heap.size, 3, none⟩ = some (.int .i64 f.stream) ∧ w'.cell? ⟨w.heap.size, 4, none⟩ = some (.int .i64 f.amount) ∧ w'.cell? ⟨w.heap.size, 5, none⟩ = some (.int .i64 f.code) ∧ w'.cell? ⟨w.heap.size, 6, none⟩ = some (.string f.who) ∧ w'.cell? ⟨w.heap.size, 7, none⟩ = some (.string f.name) ∧ w'.cell? ⟨w.heap.size, 8, none⟩ = some (.float .f64 f.weight) ∧ w'.cell? ⟨w.heap.size, 9, none⟩ = some (.slice A f.bytes.length c))
    (first | go_keep | exact FrC.conj (FrC.on HF3.out hlt3 ((Below.refl _ _).drew.trans hbn)) | exact FrC.conj (FrC.on HF3.out hlt3 (((Below.refl _ _).drew.trans hbn).trans (hbp.mono ((Below.refl _ _).drew.trans hbn).size))))
    (first
      | (go_at_call 22; refine (new_any _).mono ?_; rintro e w4 ⟨H, va, vb, rfl, hT, hbn⟩)
      | (go_at_call 36; refine (HRp.out _ H va vb _ (by exact (Below.refl _ _).drew.trans hbn) hT).mono ?_; rintro e w5 ⟨hbp, D, cd, rfl, hcd, hod⟩))
  have hb35 : Below w3.heap.size w3 w5 := ((Below.refl _ _).drew.trans hbn).trans (hbp.mono ((Below.refl _ _).drew.trans hbn).size)
  have HB5 := Lib.hid (below_on HB3.out hb35)
  have HF5 := Lib.hid (HF3.out.on hlt3 hb35)
  have hlt5 : w.heap.size < w5.heap.size := by have := hb35.size; omega
  have HOb5 := Lib.hid (HOb.out.step hb35)
  have HOd5 := Lib.hid ((RdC.of_own hod).mono (ok' := (· < w5.heap.size)) (fun k hk => hk.2))
  clear hb35 hbn hbp hT c0 c1 c2 c3 c4 c5 c6 c7 c8 c9 hod
  obtain ⟨c0, c1, c2, c3, c4, c5, c6, c7, c8, c9⟩ := HF5.out
  obtain ⟨L, hL⟩ : ∃ L : ByteArray, L = ⟨(layoutF f.kind).toArray⟩ := ⟨_, rfl⟩
  have hce : Calls Tryd.prog 37 #[.agg #[.int .i64 f.kind, .int .i64 0, .int .i64 0, .int .i64 0, .int .i64 0, .int .i64 0, .string ⟨#[]⟩, .string ⟨#[]⟩, .float .f64 0, .slice none 0 0]] w5 (fun e w' => (∃ v, e = .returned (.tuple #[.string L, v])) ∧ Below w5.heap.size w5 w') :=
    (rcells_any (Fr.of f.kind) none 0 w5 (RdC.nil _ _ _)).mono fun e w' h => ⟨by obtain ⟨_, A, c, rfl, _⟩ := h; exact ⟨_, by rw [hL]; rfl⟩, h.1⟩
  have hly : ∀ W, Calls Tryd.prog 16 #[.int .i64 f.kind] W (fun e w' => e = .returned (.string L) ∧ Below W.heap.size W w') := fun W => by
    rw [hL]; exact layout_any f.kind W
  have HCe := Lib.hid hce
  have HLy := Lib.hid hly
  clear hce hly hL
  go_wp2_with fail
  (with_reducible refine HCe.out.mono ?_)
  rintro e w6 ⟨⟨vc, rfl⟩, hb6⟩
  have HB6 := Lib.hid (below_on HB5.out hb6)
  have HF6 := Lib.hid (HF5.out.on hlt5 hb6)
  have hlt6 : w.heap.size < w6.heap.size := by have := hb6.size; omega
  have HOb6 := Lib.hid (HOb5.out.step hb6)
  have HOd6 := Lib.hid (HOd5.out.step hb6)
  have hS : ∀ W, Below w6.heap.size w6 W → (fun w' => w'.cell? ⟨w.heap.size, 0, none⟩ = some (.int .i64 f.kind) ∧ w'.cell? ⟨w.heap.size, 1, none⟩ = some (.int .i64 f.seq) ∧ w'.cell? ⟨w.heap.size, 2, none⟩ = some (.int .i64 f.got) ∧ w'.cell? ⟨w.heap.size, 3, none⟩ = some (.int .i64 f.stream) ∧ w'.cell? ⟨w.heap.size, 4, none⟩ = some (.int .i64 f.amount) ∧ w'.cell? ⟨w.heap.size, 5, none⟩ = some (.int .i64 f.code) ∧ w'.cell? ⟨w.heap.size, 6, none⟩ = some (.string f.who) ∧ w'.cell? ⟨w.heap.size, 7, none⟩ = some (.string f.name) ∧ w'.cell? ⟨w.heap.size, 8, none⟩ = some (.float .f64 f.weight) ∧ w'.cell? ⟨w.heap.size, 9, none⟩ = some (.slice A f.bytes.length c) ∧ w'.cell? ⟨0, 0, none⟩ = some (.iface 147 (.pointer (some (es .frame)))) ∧ (convert 23 9 (.slice B P.length cb)).run Tryd.prog w' = .ok (.string ⟨P.toArray⟩) w' ∧ (convert 23 9 (.slice D P.length cd)).run Tryd.prog w' = .ok (.string ⟨P.toArray⟩) w') W := fun W hW => by
    obtain ⟨b0, b1, b2, b3, b4, b5, b6, b7, b8, b9⟩ := HF6.out.on hlt6 hW
    exact ⟨b0, b1, b2, b3, b4, b5, b6, b7, b8, b9, (((HE.out.step HB6.out).step hW).frame).at, run_str_of Tryd.underlying23 Tryd.underlying5 Tryd.underlying9 rfl (HOb6.out.step hW), run_str_of Tryd.underlying23 Tryd.underlying5 Tryd.underlying9 rfl (HOd6.out.step hW)⟩
  have hch : ∀ W, Below w6.heap.size w6 W → Calls Tryd.prog 15 #[.agg #[.int .i64 f.kind, .int .i64 f.seq, .int .i64 f.got, .int .i64 f.stream, .int .i64 f.amount, .int .i64 f.code, .string f.who, .string f.name, .float .f64 f.weight, .slice A f.bytes.length c]] W (fun e w' => e = .returned (.nilIface) ∧ Below W.heap.size W w') := fun W hW =>
    (checkF_any es f A c W ((HE.out.step HB6.out).step hW).fenv HLn.out ((HA.out.step HB6.out).step hW)).mono fun e w' h => ⟨by rw [h.1, HCk.out]; rfl, h.2⟩
  have hnu : ∀ W, Below w6.heap.size w6 W → Calls Tryd.prog 29 #[.nilIface] W (fun e w' => e = .returned (.int .i64 0) ∧ Below W.heap.size W w') := fun W hW =>
    (num_nil W).mono fun e w' h => ⟨h.1, by rw [h.2]; exact Below.refl _ _⟩
  have hro : ∀ W, Below w6.heap.size w6 W → Calls Tryd.prog 18 #[.int .i64 f.kind] W (fun e w' => e = .returned (.bool (rowF f.kind)) ∧ Below W.heap.size W w') := fun W hW =>
    (row_any f.kind W).mono fun e w' h => ⟨h.1, by rw [h.2]; exact Below.refl _ _⟩
  have hly : ∀ W, Below w6.heap.size w6 W → Calls Tryd.prog 16 #[.int .i64 f.kind] W (fun e w' => e = .returned (.string L) ∧ Below W.heap.size W w') := fun W hW => HLy.out W
  have hrw : rowF f.kind = decide (7 ≤ f.kind ∧ f.kind ≤ 17) := rfl
  have hrw2 : ¬ 7 ≤ f.kind → rowF f.kind = false := fun h => by rw [hrw]; exact decide_eq_false (fun hh => h hh.1)
  have hrw3 : 7 ≤ f.kind → rowF f.kind = decide (f.kind ≤ 17) := fun h => by rw [hrw]; exact decide_eq_decide.2 ⟨fun hh => hh.2, fun hh => ⟨h, hh⟩⟩
  have HS := Lib.hid hS
  have HCh := Lib.hid hch
  have HNu := Lib.hid hnu
  have HRo := Lib.hid hro
  have HLz := Lib.hid hly
  have HR2 := Lib.hid hrw2
  have HR3 := Lib.hid hrw3
  clear hS hch hnu hro hly hrw hrw2 hrw3 hb6 c0 c1 c2 c3 c4 c5 c6 c7 c8 c9 HCe
  generalize rowF f.kind = rw at *
  go_wp2_with fail
  by_cases hk7 : 7 ≤ f.kind
  · have HX := Lib.hid (HR3.out hk7)
    have hx := HX.out
    subst hx
    have hbq10 : Below w6.heap.size w6 w6.drew := (Below.refl _ _).drew
    refine wp_region_held_drew (S := (fun w' => w'.cell? ⟨w.heap.size, 0, none⟩ = some (.int .i64 f.kind) ∧ w'.cell? ⟨w.heap.size, 1, none⟩ = some (.int .i64 f.seq) ∧ w'.cell? ⟨w.heap.size, 2, none⟩ = some (.int .i64 f.got) ∧ w'.cell? ⟨w.heap.size, 3, none⟩ = some (.int .i64 f.stream) ∧ w'.cell? ⟨w.heap.size, 4, none⟩ = some (.int .i64 f.amount) ∧ w'.cell? ⟨w.heap.size, 5, none⟩ = some (.int .i64 f.code) ∧ w'.cell? ⟨w.heap.size, 6, none⟩ = some (.string f.who) ∧ w'.cell? ⟨w.heap.size, 7, none⟩ = some (.string f.name) ∧ w'.cell? ⟨w.heap.size, 8, none⟩ = some (.float .f64 f.weight) ∧ w'.cell? ⟨w.heap.size, 9, none⟩ = some (.slice A f.bytes.length c) ∧ w'.cell? ⟨0, 0, none⟩ = some (.iface 147 (.pointer (some (es .frame)))) ∧ (convert 23 9 (.slice B P.length cb)).run Tryd.prog w' = .ok (.string ⟨P.toArray⟩) w' ∧ (convert 23 9 (.slice D P.length cd)).run Tryd.prog w' = .ok (.string ⟨P.toArray⟩) w')) (by kernel_rfl) (HS.out _ hbq10) (fun hHq10 => ?_)
    refine wpAnyH_take (i := 0) (oi := { dst := some 30, op := Op.move (Operand.tmp 3), type := 23, pos := "law.go:27", after := #[], guard := none }) (v := ?vq1x2) rfl (by kernel_rfl) (by kernel_rfl) (by kernel_rfl) (fun _ _ _ h => h) (Or.inl ⟨by rfl, ?hyq1x2⟩) (by assumption) ?restq1x2
    case hyq1x2 => (intro w hSw; (try dsimp only at hSw); go_simp; first | done | with_reducible rfl)
    simp only [Act.put, List.setIfInBounds_toArray, List.set_cons_zero, List.set_cons_succ]
    refine wpAnyH_take (i := 1) (oi := { dst := some 31, op := Op.convert 23 9 (Operand.tmp 30), type := 9, pos := "law.go:27", after := #[{ on := 0, ground := Ground.data }], guard := none }) (v := ?vq1x3) rfl (by kernel_rfl) (by kernel_rfl) (by kernel_rfl) (fun _ _ _ h => h) (Or.inl ⟨by rfl, ?hyq1x3⟩) (by assumption) ?restq1x3
    case hyq1x3 => (intro w hSw; (try dsimp only at hSw); go_simp; first | done | with_reducible rfl)
    simp only [Act.put, List.setIfInBounds_toArray, List.set_cons_zero, List.set_cons_succ]
    refine wpAnyH_take (i := 2) (oi := { dst := some 32, op := Op.move (Operand.tmp 5), type := 23, pos := "law.go:27", after := #[], guard := none }) (v := ?vq1x4) rfl (by kernel_rfl) (by kernel_rfl) (by kernel_rfl) (fun _ _ _ h => h) (Or.inl ⟨by rfl, ?hyq1x4⟩) (by assumption) ?restq1x4
    case hyq1x4 => (intro w hSw; (try dsimp only at hSw); go_simp; first | done | with_reducible rfl)
    simp only [Act.put, List.setIfInBounds_toArray, List.set_cons_zero, List.set_cons_succ]
    refine wpAnyH_take (i := 3) (oi := { dst := some 33, op := Op.convert 23 9 (Operand.tmp 32), type := 9, pos := "law.go:27", after := #[{ on := 2, ground := Ground.data }], guard := none }) (v := ?vq1x5) rfl (by kernel_rfl) (by kernel_rfl) (by kernel_rfl) (fun _ _ _ h => h) (Or.inl ⟨by rfl, ?hyq1x5⟩) (by assumption) ?restq1x5
    case hyq1x5 => (intro w hSw; (try dsimp only at hSw); go_simp; first | done | with_reducible rfl)
    simp only [Act.put, List.setIfInBounds_toArray, List.set_cons_zero, List.set_cons_succ]
    refine wpAnyH_take (i := 4) (oi := { dst := some 34, op := Op.binOp BinOp.neq 9 (Operand.tmp 31) (Operand.tmp 33) 9, type := 4, pos := "law.go:27", after := #[{ on := 1, ground := Ground.data }, { on := 3, ground := Ground.data }], guard := none }) (v := ?vq1x6) rfl (by kernel_rfl) (by kernel_rfl) (by kernel_rfl) (fun _ _ _ h => h) (Or.inl ⟨by rfl, ?hyq1x6⟩) (by assumption) ?restq1x6
    case hyq1x6 => (intro w hSw; (try dsimp only at hSw); go_simp; first | done | with_reducible rfl)
    simp only [Act.put, List.setIfInBounds_toArray, List.set_cons_zero, List.set_cons_succ]
    refine wpAnyH_take (i := 5) (oi := { dst := some 35, op := Op.move (Operand.tmp 34), type := 4, pos := "law.go:27", after := #[{ on := 4, ground := Ground.data }], guard := none }) (v := ?vq1x7) rfl (by kernel_rfl) (by kernel_rfl) (by kernel_rfl) (fun _ _ _ h => h) (Or.inl ⟨by rfl, ?hyq1x7⟩) (by assumption) ?restq1x7
    case hyq1x7 => (intro w hSw; (try dsimp only at hSw); go_simp; first | done | with_reducible rfl)
    simp only [Act.put, List.setIfInBounds_toArray, List.set_cons_zero, List.set_cons_succ]
    refine wpAnyH_take (i := 6) (oi := { dst := some 36, op := Op.move (Operand.tmp 4), type := 30, pos := "law.go:27", after := #[{ on := 5, ground := Ground.guard }], guard := some (5, false) }) (v := ?vq1x8) rfl (by kernel_rfl) (by kernel_rfl) (by kernel_rfl) (fun _ _ _ h => h) (Or.inl ⟨by rfl, ?hyq1x8⟩) (by assumption) ?restq1x8
    case hyq1x8 => (intro w hSw; (try dsimp only at hSw); go_simp; first | done | with_reducible rfl)
    simp only [Act.put, List.setIfInBounds_toArray, List.set_cons_zero, List.set_cons_succ]
    refine wpAnyH_take (i := 7) (oi := { dst := some 37, op := Op.binOp BinOp.eql 30 (Operand.tmp 36) (Operand.const Value.nilIface) 30, type := 4, pos := "law.go:27", after := #[{ on := 6, ground := Ground.data }, { on := 5, ground := Ground.guard }], guard := some (5, false) }) (v := ?vq1x9) rfl (by kernel_rfl) (by kernel_rfl) (by kernel_rfl) (fun _ _ _ h => h) (Or.inl ⟨by rfl, ?hyq1x9⟩) (by assumption) ?restq1x9
    case hyq1x9 => (intro w hSw; (try dsimp only at hSw); go_simp; first | done | with_reducible rfl)
    simp only [Act.put, List.setIfInBounds_toArray, List.set_cons_zero, List.set_cons_succ]
    refine wpAnyH_take (i := 8) (oi := { dst := some 38, op := Op.move (Operand.tmp 6), type := 4, pos := "law.go:27", after := #[{ on := 5, ground := Ground.guard }], guard := some (5, false) }) (v := ?vq1x10) rfl (by kernel_rfl) (by kernel_rfl) (by kernel_rfl) (fun _ _ _ h => h) (Or.inl ⟨by rfl, ?hyq1x10⟩) (by assumption) ?restq1x10
    case hyq1x10 => (intro w hSw; (try dsimp only at hSw); go_simp; first | done | with_reducible rfl)
    simp only [Act.put, List.setIfInBounds_toArray, List.set_cons_zero, List.set_cons_succ]
    refine wpAnyH_take (i := 9) (oi := { dst := some 39, op := Op.binOp BinOp.neq 4 (Operand.tmp 37) (Operand.tmp 38) 4, type := 4, pos := "law.go:27", after := #[{ on := 7, ground := Ground.data }, { on := 8, ground := Ground.data }, { on := 5, ground := Ground.guard }], guard := some (5, false) }) (v := ?vq1x11) rfl (by kernel_rfl) (by kernel_rfl) (by kernel_rfl) (fun _ _ _ h => h) (Or.inl ⟨by rfl, ?hyq1x11⟩) (by assumption) ?restq1x11
    case hyq1x11 => (intro w hSw; (try dsimp only at hSw); go_simp; first | done | with_reducible rfl)
    simp only [Act.put, List.setIfInBounds_toArray, List.set_cons_zero, List.set_cons_succ]
    refine wpAnyH_take (i := 10) (oi := { dst := some 40, op := Op.pick (Operand.tmp 35) (Operand.const (Value.bool true)) (Operand.tmp 39), type := 4, pos := "law.go:27", after := #[{ on := 5, ground := Ground.data }, { on := 9, ground := Ground.data }], guard := none }) (v := ?vq1x12) rfl (by kernel_rfl) (by kernel_rfl) (by kernel_rfl) (fun _ _ _ h => h) (Or.inl ⟨by rfl, ?hyq1x12⟩) (by assumption) ?restq1x12
    case hyq1x12 => (intro w hSw; (try dsimp only at hSw); go_simp; first | done | with_reducible rfl)
    simp only [Act.put, List.setIfInBounds_toArray, List.set_cons_zero, List.set_cons_succ]
    refine wpAnyH_take (i := 11) (oi := { dst := some 41, op := Op.move (Operand.tmp 40), type := 4, pos := "law.go:27", after := #[{ on := 10, ground := Ground.data }, { on := 5, ground := Ground.chain }], guard := none }) (v := ?vq1x13) rfl (by kernel_rfl) (by kernel_rfl) (by kernel_rfl) (fun _ _ _ h => h) (Or.inl ⟨by rfl, ?hyq1x13⟩) (by assumption) ?restq1x13
    case hyq1x13 => (intro w hSw; (try dsimp only at hSw); go_simp; first | done | with_reducible rfl)
    simp only [Act.put, List.setIfInBounds_toArray, List.set_cons_zero, List.set_cons_succ]
    refine wpAnyH_take (i := 12) (oi := { dst := some 42, op := Op.move (Operand.tmp 4), type := 30, pos := "law.go:27", after := #[{ on := 11, ground := Ground.guard }], guard := some (11, false) }) (v := ?vq1x14) rfl (by kernel_rfl) (by kernel_rfl) (by kernel_rfl) (fun _ _ _ h => h) (Or.inl ⟨by rfl, ?hyq1x14⟩) (by assumption) ?restq1x14
    case hyq1x14 => (intro w hSw; (try dsimp only at hSw); go_simp; first | done | with_reducible rfl)
    simp only [Act.put, List.setIfInBounds_toArray, List.set_cons_zero, List.set_cons_succ]
    refine wpAnyH_take (i := 13) (oi := { dst := some 43, op := Op.binOp BinOp.neq 30 (Operand.tmp 42) (Operand.const Value.nilIface) 30, type := 4, pos := "law.go:27", after := #[{ on := 12, ground := Ground.data }, { on := 11, ground := Ground.guard }], guard := some (11, false) }) (v := ?vq1x15) rfl (by kernel_rfl) (by kernel_rfl) (by kernel_rfl) (fun _ _ _ h => h) (Or.inl ⟨by rfl, ?hyq1x15⟩) (by assumption) ?restq1x15
    case hyq1x15 => (intro w hSw; (try dsimp only at hSw); go_simp; first | done | with_reducible rfl)
    simp only [Act.put, List.setIfInBounds_toArray, List.set_cons_zero, List.set_cons_succ]
    refine wpAnyH_take (i := 14) (oi := { dst := some 44, op := Op.move (Operand.tmp 43), type := 4, pos := "law.go:27", after := #[{ on := 13, ground := Ground.data }, { on := 11, ground := Ground.chain }, { on := 11, ground := Ground.guard }], guard := some (11, false) }) (v := ?vq1x16) rfl (by kernel_rfl) (by kernel_rfl) (by kernel_rfl) (fun _ _ _ h => h) (Or.inl ⟨by rfl, ?hyq1x16⟩) (by assumption) ?restq1x16
    case hyq1x16 => (intro w hSw; (try dsimp only at hSw); go_simp; first | done | with_reducible rfl)
    simp only [Act.put, List.setIfInBounds_toArray, List.set_cons_zero, List.set_cons_succ]
    refine wpAnyH_take (i := 15) (oi := { dst := some 45, op := Op.move (Operand.tmp 4), type := 30, pos := "law.go:27", after := #[{ on := 14, ground := Ground.guard }], guard := some (14, true) }) (v := undef) rfl (by kernel_rfl) (by kernel_rfl) (by kernel_rfl) (fun _ _ _ h => h) (Or.inr ⟨by rfl, rfl⟩) (by assumption) ?_
    simp only [Act.put, List.setIfInBounds_toArray, List.set_cons_zero, List.set_cons_succ]
    refine wpAnyH_take (i := 16) (oi := { dst := some 46, op := Op.load 30 (Operand.global 0), type := 30, pos := "law.go:27", after := #[{ on := 14, ground := Ground.guard }], guard := some (14, true) }) (v := undef) rfl (by kernel_rfl) (by kernel_rfl) (by kernel_rfl) (fun _ _ _ h => h) (Or.inr ⟨by rfl, rfl⟩) (by assumption) ?_
    simp only [Act.put, List.setIfInBounds_toArray, List.set_cons_zero, List.set_cons_succ]
    refine wpAnyH_take (i := 17) (oi := { dst := some 47, op := Op.binOp BinOp.neq 30 (Operand.tmp 45) (Operand.tmp 46) 30, type := 4, pos := "law.go:27", after := #[{ on := 15, ground := Ground.data }, { on := 16, ground := Ground.data }, { on := 14, ground := Ground.guard }], guard := some (14, true) }) (v := undef) rfl (by kernel_rfl) (by kernel_rfl) (by kernel_rfl) (fun _ _ _ h => h) (Or.inr ⟨by rfl, rfl⟩) (by assumption) ?_
    simp only [Act.put, List.setIfInBounds_toArray, List.set_cons_zero, List.set_cons_succ]
    refine wpAnyH_take (i := 18) (oi := { dst := some 48, op := Op.pick (Operand.tmp 44) (Operand.tmp 47) (Operand.const (Value.bool false)), type := 4, pos := "law.go:27", after := #[{ on := 14, ground := Ground.data }, { on := 17, ground := Ground.data }, { on := 11, ground := Ground.guard }], guard := some (11, false) }) (v := ?vq1x17) rfl (by kernel_rfl) (by kernel_rfl) (by kernel_rfl) (fun _ _ _ h => h) (Or.inl ⟨by rfl, ?hyq1x17⟩) (by assumption) ?restq1x17
    case hyq1x17 => (intro w hSw; (try dsimp only at hSw); go_simp; first | done | with_reducible rfl)
    simp only [Act.put, List.setIfInBounds_toArray, List.set_cons_zero, List.set_cons_succ]
    refine wpAnyH_take (i := 19) (oi := { dst := some 49, op := Op.pick (Operand.tmp 41) (Operand.const (Value.bool true)) (Operand.tmp 48), type := 4, pos := "law.go:27", after := #[{ on := 11, ground := Ground.data }, { on := 18, ground := Ground.data }], guard := none }) (v := ?vq1x18) rfl (by kernel_rfl) (by kernel_rfl) (by kernel_rfl) (fun _ _ _ h => h) (Or.inl ⟨by rfl, ?hyq1x18⟩) (by assumption) ?restq1x18
    case hyq1x18 => (intro w hSw; (try dsimp only at hSw); go_simp; first | done | with_reducible rfl)
    simp only [Act.put, List.setIfInBounds_toArray, List.set_cons_zero, List.set_cons_succ]
    refine wpAnyH_take (i := 20) (oi := { dst := some 50, op := Op.move (Operand.tmp 49), type := 4, pos := "law.go:27", after := #[{ on := 19, ground := Ground.data }, { on := 14, ground := Ground.chain }], guard := none }) (v := ?vq1x19) rfl (by kernel_rfl) (by kernel_rfl) (by kernel_rfl) (fun _ _ _ h => h) (Or.inl ⟨by rfl, ?hyq1x19⟩) (by assumption) ?restq1x19
    case hyq1x19 => (intro w hSw; (try dsimp only at hSw); go_simp; first | done | with_reducible rfl)
    simp only [Act.put, List.setIfInBounds_toArray, List.set_cons_zero, List.set_cons_succ]
    refine wpAnyH_take (i := 21) (oi := { dst := some 51, op := Op.load 25 (Operand.tmp 1), type := 25, pos := "law.go:27", after := #[{ on := 20, ground := Ground.guard }], guard := some (20, false) }) (v := ?vq1x20) rfl (by kernel_rfl) (by kernel_rfl) (by kernel_rfl) (fun _ _ _ h => h) (Or.inl ⟨by rfl, ?hyq1x20⟩) (by assumption) ?restq1x20
    case hyq1x20 => (intro w hSw; (try dsimp only at hSw); go_simp; first | done | with_reducible rfl)
    simp only [Act.put, List.setIfInBounds_toArray, List.set_cons_zero, List.set_cons_succ]
    refine wpAnyH_take (i := 24) (oi := { dst := some 54, op := Op.move (Operand.tmp 4), type := 30, pos := "law.go:27", after := #[{ on := 20, ground := Ground.guard }], guard := some (20, false) }) (v := ?vq1x21) rfl (by kernel_rfl) (by kernel_rfl) (by kernel_rfl) (fun _ _ _ h => h) (Or.inl ⟨by rfl, ?hyq1x21⟩) (by assumption) ?restq1x21
    case hyq1x21 => (intro w hSw; (try dsimp only at hSw); go_simp; first | done | with_reducible rfl)
    simp only [Act.put, List.setIfInBounds_toArray, List.set_cons_zero, List.set_cons_succ]
    refine wpAnyH_ready (rs := [22]) (by kernel_rfl) (by simp) ?_
    refine AllReadyH.cons (o := { dst := some 52, op := Op.call { callee := Callee.value (Operand.func 15), args := #[Operand.tmp 51], argTypes := #[25] }, type := 30, pos := "law.go:27", after := #[{ on := 21, ground := Ground.data }, { on := 20, ground := Ground.chain }, { on := 20, ground := Ground.guard }], guard := some (20, false) }) rfl (fun K hK => ?_) AllReadyH.nil
    go_simp
    go_wp2_with (refine (HCh.out _ hbq10).mono ?_; rintro e xq11 ⟨rfl, hstep⟩)
    have hbq11 := below_on hbq10 hstep
    refine hK.out _ _ (HS.out _ hbq11) (fun hHq11 => ?_)
    clear hK K hHq10 hstep
    refine wpAnyH_ready (rs := [23]) (by kernel_rfl) (by simp) ?_
    refine AllReadyH.cons (o := { dst := some 53, op := Op.call { callee := Callee.value (Operand.func 29), args := #[Operand.tmp 52], argTypes := #[30] }, type := 3, pos := "law.go:27", after := #[{ on := 22, ground := Ground.data }, { on := 22, ground := Ground.chain }, { on := 20, ground := Ground.guard }], guard := some (20, false) }) rfl (fun K hK => ?_) AllReadyH.nil
    go_simp
    go_wp2_with (refine (HNu.out _ hbq11).mono ?_; rintro e xq12 ⟨rfl, hstep⟩)
    have hbq12 := below_on hbq11 hstep
    refine hK.out _ _ (HS.out _ hbq12) (fun hHq12 => ?_)
    clear hK K hHq11 hstep
    refine wpAnyH_ready (rs := [25]) (by kernel_rfl) (by simp) ?_
    refine AllReadyH.cons (o := { dst := some 55, op := Op.call { callee := Callee.value (Operand.func 29), args := #[Operand.tmp 54], argTypes := #[30] }, type := 3, pos := "law.go:27", after := #[{ on := 24, ground := Ground.data }, { on := 23, ground := Ground.chain }, { on := 20, ground := Ground.guard }], guard := some (20, false) }) rfl (fun K hK => ?_) AllReadyH.nil
    go_simp
    go_wp2_with (refine (HNu.out _ hbq12).mono ?_; rintro e xq13 ⟨rfl, hstep⟩)
    have hbq13 := below_on hbq12 hstep
    refine hK.out _ _ (HS.out _ hbq13) (fun hHq13 => ?_)
    clear hK K hHq12 hstep
    refine wpAnyH_take (i := 26) (oi := { dst := some 56, op := Op.binOp BinOp.neq 3 (Operand.tmp 53) (Operand.tmp 55) 3, type := 4, pos := "law.go:27", after := #[{ on := 23, ground := Ground.data }, { on := 25, ground := Ground.data }, { on := 20, ground := Ground.guard }], guard := some (20, false) }) (v := ?vq1x22) rfl (by kernel_rfl) (by kernel_rfl) (by kernel_rfl) (fun _ _ _ h => h) (Or.inl ⟨by rfl, ?hyq1x22⟩) (by assumption) ?restq1x22
    case hyq1x22 => (intro w hSw; (try dsimp only at hSw); go_simp; first | done | with_reducible rfl)
    simp only [Act.put, List.setIfInBounds_toArray, List.set_cons_zero, List.set_cons_succ]
    refine wpAnyH_take (i := 27) (oi := { dst := some 57, op := Op.pick (Operand.tmp 50) (Operand.const (Value.bool true)) (Operand.tmp 56), type := 4, pos := "law.go:27", after := #[{ on := 20, ground := Ground.data }, { on := 26, ground := Ground.data }], guard := none }) (v := ?vq1x23) rfl (by kernel_rfl) (by kernel_rfl) (by kernel_rfl) (fun _ _ _ h => h) (Or.inl ⟨by rfl, ?hyq1x23⟩) (by assumption) ?restq1x23
    case hyq1x23 => (intro w hSw; (try dsimp only at hSw); go_simp; first | done | with_reducible rfl)
    simp only [Act.put, List.setIfInBounds_toArray, List.set_cons_zero, List.set_cons_succ]
    refine wpAnyH_take (i := 28) (oi := { dst := some 58, op := Op.move (Operand.tmp 57), type := 4, pos := "law.go:27", after := #[{ on := 27, ground := Ground.data }, { on := 25, ground := Ground.chain }], guard := none }) (v := ?vq1x24) rfl (by kernel_rfl) (by kernel_rfl) (by kernel_rfl) (fun _ _ _ h => h) (Or.inl ⟨by rfl, ?hyq1x24⟩) (by assumption) ?restq1x24
    case hyq1x24 => (intro w hSw; (try dsimp only at hSw); go_simp; first | done | with_reducible rfl)
    simp only [Act.put, List.setIfInBounds_toArray, List.set_cons_zero, List.set_cons_succ]
    refine wpAnyH_take (i := 29) (oi := { dst := some 59, op := Op.fieldAddr 25 (Operand.tmp 1) 0, type := 0, pos := "law.go:27", after := #[{ on := 28, ground := Ground.guard }], guard := some (28, false) }) (v := ?vq1x25) rfl (by kernel_rfl) (by kernel_rfl) (by kernel_rfl) (fun _ _ _ h => h) (Or.inl ⟨by rfl, ?hyq1x25⟩) (by assumption) ?restq1x25
    case hyq1x25 => (intro w hSw; (try dsimp only at hSw); go_simp; first | done | with_reducible rfl)
    simp only [Act.put, List.setIfInBounds_toArray, List.set_cons_zero, List.set_cons_succ]
    refine wpAnyH_take (i := 30) (oi := { dst := some 60, op := Op.load 3 (Operand.tmp 59), type := 3, pos := "law.go:27", after := #[{ on := 29, ground := Ground.data }, { on := 28, ground := Ground.guard }], guard := some (28, false) }) (v := ?vq1x26) rfl (by kernel_rfl) (by kernel_rfl) (by kernel_rfl) (fun _ _ _ h => h) (Or.inl ⟨by rfl, ?hyq1x26⟩) (by assumption) ?restq1x26
    case hyq1x26 => (intro w hSw; (try dsimp only at hSw); go_simp; first | done | with_reducible rfl)
    simp only [Act.put, List.setIfInBounds_toArray, List.set_cons_zero, List.set_cons_succ]
    refine wpAnyH_take (i := 32) (oi := { dst := some 62, op := Op.fieldAddr 25 (Operand.tmp 1) 0, type := 0, pos := "law.go:27", after := #[{ on := 28, ground := Ground.guard }], guard := some (28, false) }) (v := ?vq1x27) rfl (by kernel_rfl) (by kernel_rfl) (by kernel_rfl) (fun _ _ _ h => h) (Or.inl ⟨by rfl, ?hyq1x27⟩) (by assumption) ?restq1x27
    case hyq1x27 => (intro w hSw; (try dsimp only at hSw); go_simp; first | done | with_reducible rfl)
    simp only [Act.put, List.setIfInBounds_toArray, List.set_cons_zero, List.set_cons_succ]
    refine wpAnyH_take (i := 33) (oi := { dst := some 63, op := Op.load 3 (Operand.tmp 62), type := 3, pos := "law.go:27", after := #[{ on := 32, ground := Ground.data }, { on := 28, ground := Ground.guard }], guard := some (28, false) }) (v := ?vq1x28) rfl (by kernel_rfl) (by kernel_rfl) (by kernel_rfl) (fun _ _ _ h => h) (Or.inl ⟨by rfl, ?hyq1x28⟩) (by assumption) ?restq1x28
    case hyq1x28 => (intro w hSw; (try dsimp only at hSw); go_simp; first | done | with_reducible rfl)
    simp only [Act.put, List.setIfInBounds_toArray, List.set_cons_zero, List.set_cons_succ]
    refine wpAnyH_take (i := 34) (oi := { dst := some 64, op := Op.binOp BinOp.geq 3 (Operand.tmp 63) (Operand.const (Value.int IntKind.i64 7)) 3, type := 4, pos := "law.go:27", after := #[{ on := 33, ground := Ground.data }, { on := 28, ground := Ground.guard }], guard := some (28, false) }) (v := ?vq1x29) rfl (by kernel_rfl) (by kernel_rfl) (by kernel_rfl) (fun _ _ _ h => h) (Or.inl ⟨by rfl, ?hyq1x29⟩) (by assumption) ?restq1x29
    case hyq1x29 => (intro w hSw; (try dsimp only at hSw); go_simp; first | done | with_reducible rfl)
    simp only [Act.put, List.setIfInBounds_toArray, List.set_cons_zero, List.set_cons_succ]
    refine wpAnyH_ready (rs := [31]) (by kernel_rfl) (by simp) ?_
    refine AllReadyH.cons (o := { dst := some 61, op := Op.call { callee := Callee.value (Operand.func 18), args := #[Operand.tmp 60], argTypes := #[3] }, type := 4, pos := "law.go:27", after := #[{ on := 30, ground := Ground.data }, { on := 28, ground := Ground.chain }, { on := 28, ground := Ground.guard }], guard := some (28, false) }) rfl (fun K hK => ?_) AllReadyH.nil
    go_simp
    go_wp2_with (refine (HRo.out _ hbq13).mono ?_; rintro e xq14 ⟨rfl, hstep⟩)
    have hbq14 := below_on hbq13 hstep
    refine hK.out _ _ (HS.out _ hbq14) (fun hHq14 => ?_)
    clear hK K hHq13 hstep
    refine wpAnyH_take (i := 35) (oi := { dst := some 65, op := Op.move (Operand.tmp 64), type := 4, pos := "law.go:27", after := #[{ on := 34, ground := Ground.data }, { on := 31, ground := Ground.chain }, { on := 28, ground := Ground.guard }], guard := some (28, false) }) (v := ?vq1x30) rfl (by kernel_rfl) (by kernel_rfl) (by kernel_rfl) (fun _ _ _ h => h) (Or.inl ⟨by rfl, ?hyq1x30⟩) (by assumption) ?restq1x30
    case hyq1x30 => (intro w hSw; (try dsimp only at hSw); go_simp; first | done | with_reducible rfl)
    simp only [Act.put, List.setIfInBounds_toArray, List.set_cons_zero, List.set_cons_succ]
    refine wpAnyH_take (i := 36) (oi := { dst := some 66, op := Op.fieldAddr 25 (Operand.tmp 1) 0, type := 0, pos := "law.go:27", after := #[{ on := 35, ground := Ground.guard }], guard := some (35, true) }) (v := ?vq1x31) rfl (by kernel_rfl) (by kernel_rfl) (by kernel_rfl) (fun _ _ _ h => h) (Or.inl ⟨by rfl, ?hyq1x31⟩) (by assumption) ?restq1x31
    case hyq1x31 => (intro w hSw; (try dsimp only at hSw); go_simp; first | done | with_reducible rfl)
    simp only [Act.put, List.setIfInBounds_toArray, List.set_cons_zero, List.set_cons_succ]
    refine wpAnyH_take (i := 37) (oi := { dst := some 67, op := Op.load 3 (Operand.tmp 66), type := 3, pos := "law.go:27", after := #[{ on := 36, ground := Ground.data }, { on := 35, ground := Ground.guard }], guard := some (35, true) }) (v := ?vq1x32) rfl (by kernel_rfl) (by kernel_rfl) (by kernel_rfl) (fun _ _ _ h => h) (Or.inl ⟨by rfl, ?hyq1x32⟩) (by assumption) ?restq1x32
    case hyq1x32 => (intro w hSw; (try dsimp only at hSw); go_simp; first | done | with_reducible rfl)
    simp only [Act.put, List.setIfInBounds_toArray, List.set_cons_zero, List.set_cons_succ]
    refine wpAnyH_take (i := 38) (oi := { dst := some 68, op := Op.binOp BinOp.leq 3 (Operand.tmp 67) (Operand.const (Value.int IntKind.i64 17)) 3, type := 4, pos := "law.go:27", after := #[{ on := 37, ground := Ground.data }, { on := 35, ground := Ground.guard }], guard := some (35, true) }) (v := ?vq1x33) rfl (by kernel_rfl) (by kernel_rfl) (by kernel_rfl) (fun _ _ _ h => h) (Or.inl ⟨by rfl, ?hyq1x33⟩) (by assumption) ?restq1x33
    case hyq1x33 => (intro w hSw; (try dsimp only at hSw); go_simp; first | done | with_reducible rfl)
    simp only [Act.put, List.setIfInBounds_toArray, List.set_cons_zero, List.set_cons_succ]
    refine wpAnyH_take (i := 39) (oi := { dst := some 69, op := Op.pick (Operand.tmp 65) (Operand.tmp 68) (Operand.const (Value.bool false)), type := 4, pos := "law.go:27", after := #[{ on := 35, ground := Ground.data }, { on := 38, ground := Ground.data }, { on := 28, ground := Ground.guard }], guard := some (28, false) }) (v := ?vq1x34) rfl (by kernel_rfl) (by kernel_rfl) (by kernel_rfl) (fun _ _ _ h => h) (Or.inl ⟨by rfl, ?hyq1x34⟩) (by assumption) ?restq1x34
    case hyq1x34 => (intro w hSw; (try dsimp only at hSw); go_simp; first | done | with_reducible rfl)
    simp only [Act.put, List.setIfInBounds_toArray, List.set_cons_zero, List.set_cons_succ]
    refine wpAnyH_take (i := 40) (oi := { dst := some 70, op := Op.binOp BinOp.neq 4 (Operand.tmp 61) (Operand.tmp 69) 4, type := 4, pos := "law.go:27", after := #[{ on := 31, ground := Ground.data }, { on := 39, ground := Ground.data }, { on := 28, ground := Ground.guard }], guard := some (28, false) }) (v := ?vq1x35) rfl (by kernel_rfl) (by kernel_rfl) (by kernel_rfl) (fun _ _ _ h => h) (Or.inl ⟨by rfl, ?hyq1x35⟩) (by assumption) ?restq1x35
    case hyq1x35 => (intro w hSw; (try dsimp only at hSw); go_simp; first | done | with_reducible rfl)
    simp only [Act.put, List.setIfInBounds_toArray, List.set_cons_zero, List.set_cons_succ]
    refine wpAnyH_take (i := 41) (oi := { dst := some 71, op := Op.pick (Operand.tmp 58) (Operand.const (Value.bool true)) (Operand.tmp 70), type := 4, pos := "law.go:27", after := #[{ on := 28, ground := Ground.data }, { on := 40, ground := Ground.data }], guard := none }) (v := ?vq1x36) rfl (by kernel_rfl) (by kernel_rfl) (by kernel_rfl) (fun _ _ _ h => h) (Or.inl ⟨by rfl, ?hyq1x36⟩) (by assumption) ?restq1x36
    case hyq1x36 => (intro w hSw; (try dsimp only at hSw); go_simp; first | done | with_reducible rfl)
    simp only [Act.put, List.setIfInBounds_toArray, List.set_cons_zero, List.set_cons_succ]
    refine wpAnyH_take (i := 42) (oi := { dst := some 72, op := Op.move (Operand.tmp 71), type := 4, pos := "law.go:27", after := #[{ on := 41, ground := Ground.data }, { on := 35, ground := Ground.chain }], guard := none }) (v := ?vq1x37) rfl (by kernel_rfl) (by kernel_rfl) (by kernel_rfl) (fun _ _ _ h => h) (Or.inl ⟨by rfl, ?hyq1x37⟩) (by assumption) ?restq1x37
    case hyq1x37 => (intro w hSw; (try dsimp only at hSw); go_simp; first | done | with_reducible rfl)
    simp only [Act.put, List.setIfInBounds_toArray, List.set_cons_zero, List.set_cons_succ]
    refine wpAnyH_take (i := 43) (oi := { dst := some 73, op := Op.fieldAddr 25 (Operand.tmp 1) 0, type := 0, pos := "law.go:27", after := #[{ on := 42, ground := Ground.guard }], guard := some (42, false) }) (v := ?vq1x38) rfl (by kernel_rfl) (by kernel_rfl) (by kernel_rfl) (fun _ _ _ h => h) (Or.inl ⟨by rfl, ?hyq1x38⟩) (by assumption) ?restq1x38
    case hyq1x38 => (intro w hSw; (try dsimp only at hSw); go_simp; first | done | with_reducible rfl)
    simp only [Act.put, List.setIfInBounds_toArray, List.set_cons_zero, List.set_cons_succ]
    refine wpAnyH_take (i := 44) (oi := { dst := some 74, op := Op.load 3 (Operand.tmp 73), type := 3, pos := "law.go:27", after := #[{ on := 43, ground := Ground.data }, { on := 42, ground := Ground.guard }], guard := some (42, false) }) (v := ?vq1x39) rfl (by kernel_rfl) (by kernel_rfl) (by kernel_rfl) (fun _ _ _ h => h) (Or.inl ⟨by rfl, ?hyq1x39⟩) (by assumption) ?restq1x39
    case hyq1x39 => (intro w hSw; (try dsimp only at hSw); go_simp; first | done | with_reducible rfl)
    simp only [Act.put, List.setIfInBounds_toArray, List.set_cons_zero, List.set_cons_succ]
    refine wpAnyH_take (i := 46) (oi := { dst := some 76, op := Op.move (Operand.tmp 7), type := 9, pos := "law.go:27", after := #[{ on := 42, ground := Ground.guard }], guard := some (42, false) }) (v := ?vq1x40) rfl (by kernel_rfl) (by kernel_rfl) (by kernel_rfl) (fun _ _ _ h => h) (Or.inl ⟨by rfl, ?hyq1x40⟩) (by assumption) ?restq1x40
    case hyq1x40 => (intro w hSw; (try dsimp only at hSw); go_simp; first | done | with_reducible rfl)
    simp only [Act.put, List.setIfInBounds_toArray, List.set_cons_zero, List.set_cons_succ]
    refine wpAnyH_ready (rs := [45]) (by kernel_rfl) (by simp) ?_
    refine AllReadyH.cons (o := { dst := some 75, op := Op.call { callee := Callee.value (Operand.func 16), args := #[Operand.tmp 74], argTypes := #[3] }, type := 9, pos := "law.go:27", after := #[{ on := 44, ground := Ground.data }, { on := 42, ground := Ground.chain }, { on := 42, ground := Ground.guard }], guard := some (42, false) }) rfl (fun K hK => ?_) AllReadyH.nil
    go_simp
    go_wp2_with (refine (HLz.out _ hbq14).mono ?_; rintro e xq15 ⟨rfl, hstep⟩)
    have hbq15 := below_on hbq14 hstep
    refine hK.out _ _ (HS.out _ hbq15) (fun hHq15 => ?_)
    clear hK K hHq14 hstep
    refine wpAnyH_take (i := 47) (oi := { dst := some 77, op := Op.binOp BinOp.neq 9 (Operand.tmp 75) (Operand.tmp 76) 9, type := 4, pos := "law.go:27", after := #[{ on := 45, ground := Ground.data }, { on := 46, ground := Ground.data }, { on := 42, ground := Ground.guard }], guard := some (42, false) }) (v := ?vq1x41) rfl (by kernel_rfl) (by kernel_rfl) (by kernel_rfl) (fun _ _ _ h => h) (Or.inl ⟨by rfl, ?hyq1x41⟩) (by assumption) ?restq1x41
    case hyq1x41 => (intro w hSw; (try dsimp only at hSw); go_simp; first | done | with_reducible rfl)
    simp only [Act.put, List.setIfInBounds_toArray, List.set_cons_zero, List.set_cons_succ]
    refine wpAnyH_take (i := 48) (oi := { dst := some 78, op := Op.pick (Operand.tmp 72) (Operand.const (Value.bool true)) (Operand.tmp 77), type := 4, pos := "law.go:27", after := #[{ on := 42, ground := Ground.data }, { on := 47, ground := Ground.data }], guard := none }) (v := ?vq1x42) rfl (by kernel_rfl) (by kernel_rfl) (by kernel_rfl) (fun _ _ _ h => h) (Or.inl ⟨by rfl, ?hyq1x42⟩) (by assumption) ?restq1x42
    case hyq1x42 => (intro w hSw; (try dsimp only at hSw); go_simp; first | done | with_reducible rfl)
    simp only [Act.put, List.setIfInBounds_toArray, List.set_cons_zero, List.set_cons_succ]
    refine wpAnyH_done (by kernel_rfl) ?_ _
    clear hHq15
    have HBx := Lib.hid (below_on HB6.out hbq15)
    have HBy := Lib.hid hbq15
    clear hbq15 hbq14 hbq13 hbq12 hbq11 hbq10
    have HOz := Lib.hid (HOb6.out.step HBy.out)
    have HFz := Lib.hid (HF6.out.on hlt6 HBy.out)
    have hltz : w.heap.size < xq15.heap.size := Nat.lt_of_lt_of_le hlt6 HBy.out.size
    have hge := (getF_any es xq15 B P.length cb P rfl (HE.out.step HBx.out) HOz.out hcb (by omega)).mono fun e w' h => h.ok HGp.out
    have HGe := Lib.hid hge
    clear hge
    obtain ⟨c0, c1, c2, c3, c4, c5, c6, c7, c8, c9⟩ := HFz.out
    go_wp2_with fail
    refine HGe.out.mono ?_
    rintro e wg ⟨hbg, Ag, cg, rfl, hrg, hcg⟩
    have HBg := Lib.hid (below_on HBx.out hbg)
    have HFg := Lib.hid (HFz.out.on hltz hbg)
    have hltg : w.heap.size < wg.heap.size := Nat.lt_of_lt_of_le hltz hbg.size
    obtain ⟨wh, hwh⟩ : ∃ W, W = wg.alloc (Obj.cells (frCs f Ag cg) 25) := ⟨_, rfl⟩
    have hbh : Below wg.heap.size wg wh := by rw [hwh]; exact below_box _ _
    have hfh : FrC wh wg.heap.size f Ag cg := by rw [hwh]; exact FrC.box wg f Ag cg _
    have HBh := Lib.hid (below_on HBg.out hbh)
    have hfz := HFg.out.on hltg hbh
    have HWh := Lib.hid (show wg.alloc (Obj.cells #[.int .i64 f.kind, .int .i64 f.seq, .int .i64 f.got, .int .i64 f.stream, .int .i64 f.amount, .int .i64 f.code, .string f.who, .string f.name, .float .f64 f.weight, .slice Ag f.bytes.length cg] 25) = wh from hwh.symm)
    have hsm := rsame_any f f Ag A cg c wh ((hrg.mono (fun k hk => hk.2)).step hbh) (HA.out.step HBh.out)
    rw [decide_eq_true rfl] at hsm
    have HSm := Lib.hid hsm
    clear hbg hwh hbh hsm hrg HGe c0 c1 c2 c3 c4 c5 c6 c7 c8 c9
    simp only [frV] at HSm
    simp only [frV]
    obtain ⟨c0, c1, c2, c3, c4, c5, c6, c7, c8, c9⟩ := hfh
    obtain ⟨d0, d1, d2, d3, d4, d5, d6, d7, d8, d9⟩ := hfz
    have hp1024 : (P.length : Int) ≤ 1024 := by omega
    go_wp2_with (rw [HWh.out])
    refine HSm.out.mono ?_
    rintro e wi ⟨rfl, hbi⟩
    have HBi := Lib.hid (below_on HBh.out hbi)
    clear hbi c0 c1 c2 c3 c4 c5 c6 c7 c8 c9 d0 d1 d2 d3 d4 d5 d6 d7 d8 d9
    go_wp2_with fail
    go_ret
    exact ⟨rfl, HBi.out⟩
  · have HX := Lib.hid (HR2.out (by omega))
    have hx := HX.out
    subst hx
    have hk7d : decide (7 ≤ f.kind) = false := decide_eq_false hk7
    have hbq430 : Below w6.heap.size w6 w6.drew := (Below.refl _ _).drew
    refine wp_region_held_drew (S := (fun w' => w'.cell? ⟨w.heap.size, 0, none⟩ = some (.int .i64 f.kind) ∧ w'.cell? ⟨w.heap.size, 1, none⟩ = some (.int .i64 f.seq) ∧ w'.cell? ⟨w.heap.size, 2, none⟩ = some (.int .i64 f.got) ∧ w'.cell? ⟨w.heap.size, 3, none⟩ = some (.int .i64 f.stream) ∧ w'.cell? ⟨w.heap.size, 4, none⟩ = some (.int .i64 f.amount) ∧ w'.cell? ⟨w.heap.size, 5, none⟩ = some (.int .i64 f.code) ∧ w'.cell? ⟨w.heap.size, 6, none⟩ = some (.string f.who) ∧ w'.cell? ⟨w.heap.size, 7, none⟩ = some (.string f.name) ∧ w'.cell? ⟨w.heap.size, 8, none⟩ = some (.float .f64 f.weight) ∧ w'.cell? ⟨w.heap.size, 9, none⟩ = some (.slice A f.bytes.length c) ∧ w'.cell? ⟨0, 0, none⟩ = some (.iface 147 (.pointer (some (es .frame)))) ∧ (convert 23 9 (.slice B P.length cb)).run Tryd.prog w' = .ok (.string ⟨P.toArray⟩) w' ∧ (convert 23 9 (.slice D P.length cd)).run Tryd.prog w' = .ok (.string ⟨P.toArray⟩) w')) (by kernel_rfl) (HS.out _ hbq430) (fun hHq430 => ?_)
    refine wpAnyH_take (i := 0) (oi := { dst := some 30, op := Op.move (Operand.tmp 3), type := 23, pos := "law.go:27", after := #[], guard := none }) (v := ?vq43x44) rfl (by kernel_rfl) (by kernel_rfl) (by kernel_rfl) (fun _ _ _ h => h) (Or.inl ⟨by rfl, ?hyq43x44⟩) (by assumption) ?restq43x44
    case hyq43x44 => (intro w hSw; (try dsimp only at hSw); go_simp; first | done | with_reducible rfl)
    simp only [Act.put, List.setIfInBounds_toArray, List.set_cons_zero, List.set_cons_succ]
    refine wpAnyH_take (i := 1) (oi := { dst := some 31, op := Op.convert 23 9 (Operand.tmp 30), type := 9, pos := "law.go:27", after := #[{ on := 0, ground := Ground.data }], guard := none }) (v := ?vq43x45) rfl (by kernel_rfl) (by kernel_rfl) (by kernel_rfl) (fun _ _ _ h => h) (Or.inl ⟨by rfl, ?hyq43x45⟩) (by assumption) ?restq43x45
    case hyq43x45 => (intro w hSw; (try dsimp only at hSw); go_simp; first | done | with_reducible rfl)
    simp only [Act.put, List.setIfInBounds_toArray, List.set_cons_zero, List.set_cons_succ]
    refine wpAnyH_take (i := 2) (oi := { dst := some 32, op := Op.move (Operand.tmp 5), type := 23, pos := "law.go:27", after := #[], guard := none }) (v := ?vq43x46) rfl (by kernel_rfl) (by kernel_rfl) (by kernel_rfl) (fun _ _ _ h => h) (Or.inl ⟨by rfl, ?hyq43x46⟩) (by assumption) ?restq43x46
    case hyq43x46 => (intro w hSw; (try dsimp only at hSw); go_simp; first | done | with_reducible rfl)
    simp only [Act.put, List.setIfInBounds_toArray, List.set_cons_zero, List.set_cons_succ]
    refine wpAnyH_take (i := 3) (oi := { dst := some 33, op := Op.convert 23 9 (Operand.tmp 32), type := 9, pos := "law.go:27", after := #[{ on := 2, ground := Ground.data }], guard := none }) (v := ?vq43x47) rfl (by kernel_rfl) (by kernel_rfl) (by kernel_rfl) (fun _ _ _ h => h) (Or.inl ⟨by rfl, ?hyq43x47⟩) (by assumption) ?restq43x47
    case hyq43x47 => (intro w hSw; (try dsimp only at hSw); go_simp; first | done | with_reducible rfl)
    simp only [Act.put, List.setIfInBounds_toArray, List.set_cons_zero, List.set_cons_succ]
    refine wpAnyH_take (i := 4) (oi := { dst := some 34, op := Op.binOp BinOp.neq 9 (Operand.tmp 31) (Operand.tmp 33) 9, type := 4, pos := "law.go:27", after := #[{ on := 1, ground := Ground.data }, { on := 3, ground := Ground.data }], guard := none }) (v := ?vq43x48) rfl (by kernel_rfl) (by kernel_rfl) (by kernel_rfl) (fun _ _ _ h => h) (Or.inl ⟨by rfl, ?hyq43x48⟩) (by assumption) ?restq43x48
    case hyq43x48 => (intro w hSw; (try dsimp only at hSw); go_simp; first | done | with_reducible rfl)
    simp only [Act.put, List.setIfInBounds_toArray, List.set_cons_zero, List.set_cons_succ]
    refine wpAnyH_take (i := 5) (oi := { dst := some 35, op := Op.move (Operand.tmp 34), type := 4, pos := "law.go:27", after := #[{ on := 4, ground := Ground.data }], guard := none }) (v := ?vq43x49) rfl (by kernel_rfl) (by kernel_rfl) (by kernel_rfl) (fun _ _ _ h => h) (Or.inl ⟨by rfl, ?hyq43x49⟩) (by assumption) ?restq43x49
    case hyq43x49 => (intro w hSw; (try dsimp only at hSw); go_simp; first | done | with_reducible rfl)
    simp only [Act.put, List.setIfInBounds_toArray, List.set_cons_zero, List.set_cons_succ]
    refine wpAnyH_take (i := 6) (oi := { dst := some 36, op := Op.move (Operand.tmp 4), type := 30, pos := "law.go:27", after := #[{ on := 5, ground := Ground.guard }], guard := some (5, false) }) (v := ?vq43x50) rfl (by kernel_rfl) (by kernel_rfl) (by kernel_rfl) (fun _ _ _ h => h) (Or.inl ⟨by rfl, ?hyq43x50⟩) (by assumption) ?restq43x50
    case hyq43x50 => (intro w hSw; (try dsimp only at hSw); go_simp; first | done | with_reducible rfl)
    simp only [Act.put, List.setIfInBounds_toArray, List.set_cons_zero, List.set_cons_succ]
    refine wpAnyH_take (i := 7) (oi := { dst := some 37, op := Op.binOp BinOp.eql 30 (Operand.tmp 36) (Operand.const Value.nilIface) 30, type := 4, pos := "law.go:27", after := #[{ on := 6, ground := Ground.data }, { on := 5, ground := Ground.guard }], guard := some (5, false) }) (v := ?vq43x51) rfl (by kernel_rfl) (by kernel_rfl) (by kernel_rfl) (fun _ _ _ h => h) (Or.inl ⟨by rfl, ?hyq43x51⟩) (by assumption) ?restq43x51
    case hyq43x51 => (intro w hSw; (try dsimp only at hSw); go_simp; first | done | with_reducible rfl)
    simp only [Act.put, List.setIfInBounds_toArray, List.set_cons_zero, List.set_cons_succ]
    refine wpAnyH_take (i := 8) (oi := { dst := some 38, op := Op.move (Operand.tmp 6), type := 4, pos := "law.go:27", after := #[{ on := 5, ground := Ground.guard }], guard := some (5, false) }) (v := ?vq43x52) rfl (by kernel_rfl) (by kernel_rfl) (by kernel_rfl) (fun _ _ _ h => h) (Or.inl ⟨by rfl, ?hyq43x52⟩) (by assumption) ?restq43x52
    case hyq43x52 => (intro w hSw; (try dsimp only at hSw); go_simp; first | done | with_reducible rfl)
    simp only [Act.put, List.setIfInBounds_toArray, List.set_cons_zero, List.set_cons_succ]
    refine wpAnyH_take (i := 9) (oi := { dst := some 39, op := Op.binOp BinOp.neq 4 (Operand.tmp 37) (Operand.tmp 38) 4, type := 4, pos := "law.go:27", after := #[{ on := 7, ground := Ground.data }, { on := 8, ground := Ground.data }, { on := 5, ground := Ground.guard }], guard := some (5, false) }) (v := ?vq43x53) rfl (by kernel_rfl) (by kernel_rfl) (by kernel_rfl) (fun _ _ _ h => h) (Or.inl ⟨by rfl, ?hyq43x53⟩) (by assumption) ?restq43x53
    case hyq43x53 => (intro w hSw; (try dsimp only at hSw); go_simp; first | done | with_reducible rfl)
    simp only [Act.put, List.setIfInBounds_toArray, List.set_cons_zero, List.set_cons_succ]
    refine wpAnyH_take (i := 10) (oi := { dst := some 40, op := Op.pick (Operand.tmp 35) (Operand.const (Value.bool true)) (Operand.tmp 39), type := 4, pos := "law.go:27", after := #[{ on := 5, ground := Ground.data }, { on := 9, ground := Ground.data }], guard := none }) (v := ?vq43x54) rfl (by kernel_rfl) (by kernel_rfl) (by kernel_rfl) (fun _ _ _ h => h) (Or.inl ⟨by rfl, ?hyq43x54⟩) (by assumption) ?restq43x54
    case hyq43x54 => (intro w hSw; (try dsimp only at hSw); go_simp; first | done | with_reducible rfl)
    simp only [Act.put, List.setIfInBounds_toArray, List.set_cons_zero, List.set_cons_succ]
    refine wpAnyH_take (i := 11) (oi := { dst := some 41, op := Op.move (Operand.tmp 40), type := 4, pos := "law.go:27", after := #[{ on := 10, ground := Ground.data }, { on := 5, ground := Ground.chain }], guard := none }) (v := ?vq43x55) rfl (by kernel_rfl) (by kernel_rfl) (by kernel_rfl) (fun _ _ _ h => h) (Or.inl ⟨by rfl, ?hyq43x55⟩) (by assumption) ?restq43x55
    case hyq43x55 => (intro w hSw; (try dsimp only at hSw); go_simp; first | done | with_reducible rfl)
    simp only [Act.put, List.setIfInBounds_toArray, List.set_cons_zero, List.set_cons_succ]
    refine wpAnyH_take (i := 12) (oi := { dst := some 42, op := Op.move (Operand.tmp 4), type := 30, pos := "law.go:27", after := #[{ on := 11, ground := Ground.guard }], guard := some (11, false) }) (v := ?vq43x56) rfl (by kernel_rfl) (by kernel_rfl) (by kernel_rfl) (fun _ _ _ h => h) (Or.inl ⟨by rfl, ?hyq43x56⟩) (by assumption) ?restq43x56
    case hyq43x56 => (intro w hSw; (try dsimp only at hSw); go_simp; first | done | with_reducible rfl)
    simp only [Act.put, List.setIfInBounds_toArray, List.set_cons_zero, List.set_cons_succ]
    refine wpAnyH_take (i := 13) (oi := { dst := some 43, op := Op.binOp BinOp.neq 30 (Operand.tmp 42) (Operand.const Value.nilIface) 30, type := 4, pos := "law.go:27", after := #[{ on := 12, ground := Ground.data }, { on := 11, ground := Ground.guard }], guard := some (11, false) }) (v := ?vq43x57) rfl (by kernel_rfl) (by kernel_rfl) (by kernel_rfl) (fun _ _ _ h => h) (Or.inl ⟨by rfl, ?hyq43x57⟩) (by assumption) ?restq43x57
    case hyq43x57 => (intro w hSw; (try dsimp only at hSw); go_simp; first | done | with_reducible rfl)
    simp only [Act.put, List.setIfInBounds_toArray, List.set_cons_zero, List.set_cons_succ]
    refine wpAnyH_take (i := 14) (oi := { dst := some 44, op := Op.move (Operand.tmp 43), type := 4, pos := "law.go:27", after := #[{ on := 13, ground := Ground.data }, { on := 11, ground := Ground.chain }, { on := 11, ground := Ground.guard }], guard := some (11, false) }) (v := ?vq43x58) rfl (by kernel_rfl) (by kernel_rfl) (by kernel_rfl) (fun _ _ _ h => h) (Or.inl ⟨by rfl, ?hyq43x58⟩) (by assumption) ?restq43x58
    case hyq43x58 => (intro w hSw; (try dsimp only at hSw); go_simp; first | done | with_reducible rfl)
    simp only [Act.put, List.setIfInBounds_toArray, List.set_cons_zero, List.set_cons_succ]
    refine wpAnyH_take (i := 15) (oi := { dst := some 45, op := Op.move (Operand.tmp 4), type := 30, pos := "law.go:27", after := #[{ on := 14, ground := Ground.guard }], guard := some (14, true) }) (v := undef) rfl (by kernel_rfl) (by kernel_rfl) (by kernel_rfl) (fun _ _ _ h => h) (Or.inr ⟨by rfl, rfl⟩) (by assumption) ?_
    simp only [Act.put, List.setIfInBounds_toArray, List.set_cons_zero, List.set_cons_succ]
    refine wpAnyH_take (i := 16) (oi := { dst := some 46, op := Op.load 30 (Operand.global 0), type := 30, pos := "law.go:27", after := #[{ on := 14, ground := Ground.guard }], guard := some (14, true) }) (v := undef) rfl (by kernel_rfl) (by kernel_rfl) (by kernel_rfl) (fun _ _ _ h => h) (Or.inr ⟨by rfl, rfl⟩) (by assumption) ?_
    simp only [Act.put, List.setIfInBounds_toArray, List.set_cons_zero, List.set_cons_succ]
    refine wpAnyH_take (i := 17) (oi := { dst := some 47, op := Op.binOp BinOp.neq 30 (Operand.tmp 45) (Operand.tmp 46) 30, type := 4, pos := "law.go:27", after := #[{ on := 15, ground := Ground.data }, { on := 16, ground := Ground.data }, { on := 14, ground := Ground.guard }], guard := some (14, true) }) (v := undef) rfl (by kernel_rfl) (by kernel_rfl) (by kernel_rfl) (fun _ _ _ h => h) (Or.inr ⟨by rfl, rfl⟩) (by assumption) ?_
    simp only [Act.put, List.setIfInBounds_toArray, List.set_cons_zero, List.set_cons_succ]
    refine wpAnyH_take (i := 18) (oi := { dst := some 48, op := Op.pick (Operand.tmp 44) (Operand.tmp 47) (Operand.const (Value.bool false)), type := 4, pos := "law.go:27", after := #[{ on := 14, ground := Ground.data }, { on := 17, ground := Ground.data }, { on := 11, ground := Ground.guard }], guard := some (11, false) }) (v := ?vq43x59) rfl (by kernel_rfl) (by kernel_rfl) (by kernel_rfl) (fun _ _ _ h => h) (Or.inl ⟨by rfl, ?hyq43x59⟩) (by assumption) ?restq43x59
    case hyq43x59 => (intro w hSw; (try dsimp only at hSw); go_simp; first | done | with_reducible rfl)
    simp only [Act.put, List.setIfInBounds_toArray, List.set_cons_zero, List.set_cons_succ]
    refine wpAnyH_take (i := 19) (oi := { dst := some 49, op := Op.pick (Operand.tmp 41) (Operand.const (Value.bool true)) (Operand.tmp 48), type := 4, pos := "law.go:27", after := #[{ on := 11, ground := Ground.data }, { on := 18, ground := Ground.data }], guard := none }) (v := ?vq43x60) rfl (by kernel_rfl) (by kernel_rfl) (by kernel_rfl) (fun _ _ _ h => h) (Or.inl ⟨by rfl, ?hyq43x60⟩) (by assumption) ?restq43x60
    case hyq43x60 => (intro w hSw; (try dsimp only at hSw); go_simp; first | done | with_reducible rfl)
    simp only [Act.put, List.setIfInBounds_toArray, List.set_cons_zero, List.set_cons_succ]
    refine wpAnyH_take (i := 20) (oi := { dst := some 50, op := Op.move (Operand.tmp 49), type := 4, pos := "law.go:27", after := #[{ on := 19, ground := Ground.data }, { on := 14, ground := Ground.chain }], guard := none }) (v := ?vq43x61) rfl (by kernel_rfl) (by kernel_rfl) (by kernel_rfl) (fun _ _ _ h => h) (Or.inl ⟨by rfl, ?hyq43x61⟩) (by assumption) ?restq43x61
    case hyq43x61 => (intro w hSw; (try dsimp only at hSw); go_simp; first | done | with_reducible rfl)
    simp only [Act.put, List.setIfInBounds_toArray, List.set_cons_zero, List.set_cons_succ]
    refine wpAnyH_take (i := 21) (oi := { dst := some 51, op := Op.load 25 (Operand.tmp 1), type := 25, pos := "law.go:27", after := #[{ on := 20, ground := Ground.guard }], guard := some (20, false) }) (v := ?vq43x62) rfl (by kernel_rfl) (by kernel_rfl) (by kernel_rfl) (fun _ _ _ h => h) (Or.inl ⟨by rfl, ?hyq43x62⟩) (by assumption) ?restq43x62
    case hyq43x62 => (intro w hSw; (try dsimp only at hSw); go_simp; first | done | with_reducible rfl)
    simp only [Act.put, List.setIfInBounds_toArray, List.set_cons_zero, List.set_cons_succ]
    refine wpAnyH_take (i := 24) (oi := { dst := some 54, op := Op.move (Operand.tmp 4), type := 30, pos := "law.go:27", after := #[{ on := 20, ground := Ground.guard }], guard := some (20, false) }) (v := ?vq43x63) rfl (by kernel_rfl) (by kernel_rfl) (by kernel_rfl) (fun _ _ _ h => h) (Or.inl ⟨by rfl, ?hyq43x63⟩) (by assumption) ?restq43x63
    case hyq43x63 => (intro w hSw; (try dsimp only at hSw); go_simp; first | done | with_reducible rfl)
    simp only [Act.put, List.setIfInBounds_toArray, List.set_cons_zero, List.set_cons_succ]
    refine wpAnyH_ready (rs := [22]) (by kernel_rfl) (by simp) ?_
    refine AllReadyH.cons (o := { dst := some 52, op := Op.call { callee := Callee.value (Operand.func 15), args := #[Operand.tmp 51], argTypes := #[25] }, type := 30, pos := "law.go:27", after := #[{ on := 21, ground := Ground.data }, { on := 20, ground := Ground.chain }, { on := 20, ground := Ground.guard }], guard := some (20, false) }) rfl (fun K hK => ?_) AllReadyH.nil
    go_simp
    go_wp2_with (refine (HCh.out _ hbq430).mono ?_; rintro e xq431 ⟨rfl, hstep⟩)
    have hbq431 := below_on hbq430 hstep
    refine hK.out _ _ (HS.out _ hbq431) (fun hHq431 => ?_)
    clear hK K hHq430 hstep
    refine wpAnyH_ready (rs := [23]) (by kernel_rfl) (by simp) ?_
    refine AllReadyH.cons (o := { dst := some 53, op := Op.call { callee := Callee.value (Operand.func 29), args := #[Operand.tmp 52], argTypes := #[30] }, type := 3, pos := "law.go:27", after := #[{ on := 22, ground := Ground.data }, { on := 22, ground := Ground.chain }, { on := 20, ground := Ground.guard }], guard := some (20, false) }) rfl (fun K hK => ?_) AllReadyH.nil
    go_simp
    go_wp2_with (refine (HNu.out _ hbq431).mono ?_; rintro e xq432 ⟨rfl, hstep⟩)
    have hbq432 := below_on hbq431 hstep
    refine hK.out _ _ (HS.out _ hbq432) (fun hHq432 => ?_)
    clear hK K hHq431 hstep
    refine wpAnyH_ready (rs := [25]) (by kernel_rfl) (by simp) ?_
    refine AllReadyH.cons (o := { dst := some 55, op := Op.call { callee := Callee.value (Operand.func 29), args := #[Operand.tmp 54], argTypes := #[30] }, type := 3, pos := "law.go:27", after := #[{ on := 24, ground := Ground.data }, { on := 23, ground := Ground.chain }, { on := 20, ground := Ground.guard }], guard := some (20, false) }) rfl (fun K hK => ?_) AllReadyH.nil
    go_simp
    go_wp2_with (refine (HNu.out _ hbq432).mono ?_; rintro e xq433 ⟨rfl, hstep⟩)
    have hbq433 := below_on hbq432 hstep
    refine hK.out _ _ (HS.out _ hbq433) (fun hHq433 => ?_)
    clear hK K hHq432 hstep
    refine wpAnyH_take (i := 26) (oi := { dst := some 56, op := Op.binOp BinOp.neq 3 (Operand.tmp 53) (Operand.tmp 55) 3, type := 4, pos := "law.go:27", after := #[{ on := 23, ground := Ground.data }, { on := 25, ground := Ground.data }, { on := 20, ground := Ground.guard }], guard := some (20, false) }) (v := ?vq43x64) rfl (by kernel_rfl) (by kernel_rfl) (by kernel_rfl) (fun _ _ _ h => h) (Or.inl ⟨by rfl, ?hyq43x64⟩) (by assumption) ?restq43x64
    case hyq43x64 => (intro w hSw; (try dsimp only at hSw); go_simp; first | done | with_reducible rfl)
    simp only [Act.put, List.setIfInBounds_toArray, List.set_cons_zero, List.set_cons_succ]
    refine wpAnyH_take (i := 27) (oi := { dst := some 57, op := Op.pick (Operand.tmp 50) (Operand.const (Value.bool true)) (Operand.tmp 56), type := 4, pos := "law.go:27", after := #[{ on := 20, ground := Ground.data }, { on := 26, ground := Ground.data }], guard := none }) (v := ?vq43x65) rfl (by kernel_rfl) (by kernel_rfl) (by kernel_rfl) (fun _ _ _ h => h) (Or.inl ⟨by rfl, ?hyq43x65⟩) (by assumption) ?restq43x65
    case hyq43x65 => (intro w hSw; (try dsimp only at hSw); go_simp; first | done | with_reducible rfl)
    simp only [Act.put, List.setIfInBounds_toArray, List.set_cons_zero, List.set_cons_succ]
    refine wpAnyH_take (i := 28) (oi := { dst := some 58, op := Op.move (Operand.tmp 57), type := 4, pos := "law.go:27", after := #[{ on := 27, ground := Ground.data }, { on := 25, ground := Ground.chain }], guard := none }) (v := ?vq43x66) rfl (by kernel_rfl) (by kernel_rfl) (by kernel_rfl) (fun _ _ _ h => h) (Or.inl ⟨by rfl, ?hyq43x66⟩) (by assumption) ?restq43x66
    case hyq43x66 => (intro w hSw; (try dsimp only at hSw); go_simp; first | done | with_reducible rfl)
    simp only [Act.put, List.setIfInBounds_toArray, List.set_cons_zero, List.set_cons_succ]
    refine wpAnyH_take (i := 29) (oi := { dst := some 59, op := Op.fieldAddr 25 (Operand.tmp 1) 0, type := 0, pos := "law.go:27", after := #[{ on := 28, ground := Ground.guard }], guard := some (28, false) }) (v := ?vq43x67) rfl (by kernel_rfl) (by kernel_rfl) (by kernel_rfl) (fun _ _ _ h => h) (Or.inl ⟨by rfl, ?hyq43x67⟩) (by assumption) ?restq43x67
    case hyq43x67 => (intro w hSw; (try dsimp only at hSw); go_simp; first | done | with_reducible rfl)
    simp only [Act.put, List.setIfInBounds_toArray, List.set_cons_zero, List.set_cons_succ]
    refine wpAnyH_take (i := 30) (oi := { dst := some 60, op := Op.load 3 (Operand.tmp 59), type := 3, pos := "law.go:27", after := #[{ on := 29, ground := Ground.data }, { on := 28, ground := Ground.guard }], guard := some (28, false) }) (v := ?vq43x68) rfl (by kernel_rfl) (by kernel_rfl) (by kernel_rfl) (fun _ _ _ h => h) (Or.inl ⟨by rfl, ?hyq43x68⟩) (by assumption) ?restq43x68
    case hyq43x68 => (intro w hSw; (try dsimp only at hSw); go_simp; first | done | with_reducible rfl)
    simp only [Act.put, List.setIfInBounds_toArray, List.set_cons_zero, List.set_cons_succ]
    refine wpAnyH_take (i := 32) (oi := { dst := some 62, op := Op.fieldAddr 25 (Operand.tmp 1) 0, type := 0, pos := "law.go:27", after := #[{ on := 28, ground := Ground.guard }], guard := some (28, false) }) (v := ?vq43x69) rfl (by kernel_rfl) (by kernel_rfl) (by kernel_rfl) (fun _ _ _ h => h) (Or.inl ⟨by rfl, ?hyq43x69⟩) (by assumption) ?restq43x69
    case hyq43x69 => (intro w hSw; (try dsimp only at hSw); go_simp; first | done | with_reducible rfl)
    simp only [Act.put, List.setIfInBounds_toArray, List.set_cons_zero, List.set_cons_succ]
    refine wpAnyH_take (i := 33) (oi := { dst := some 63, op := Op.load 3 (Operand.tmp 62), type := 3, pos := "law.go:27", after := #[{ on := 32, ground := Ground.data }, { on := 28, ground := Ground.guard }], guard := some (28, false) }) (v := ?vq43x70) rfl (by kernel_rfl) (by kernel_rfl) (by kernel_rfl) (fun _ _ _ h => h) (Or.inl ⟨by rfl, ?hyq43x70⟩) (by assumption) ?restq43x70
    case hyq43x70 => (intro w hSw; (try dsimp only at hSw); go_simp; first | done | with_reducible rfl)
    simp only [Act.put, List.setIfInBounds_toArray, List.set_cons_zero, List.set_cons_succ]
    refine wpAnyH_take (i := 34) (oi := { dst := some 64, op := Op.binOp BinOp.geq 3 (Operand.tmp 63) (Operand.const (Value.int IntKind.i64 7)) 3, type := 4, pos := "law.go:27", after := #[{ on := 33, ground := Ground.data }, { on := 28, ground := Ground.guard }], guard := some (28, false) }) (v := ?vq43x71) rfl (by kernel_rfl) (by kernel_rfl) (by kernel_rfl) (fun _ _ _ h => h) (Or.inl ⟨by rfl, ?hyq43x71⟩) (by assumption) ?restq43x71
    case hyq43x71 => (intro w hSw; (try dsimp only at hSw); go_simp; first | done | with_reducible rfl)
    simp only [Act.put, List.setIfInBounds_toArray, List.set_cons_zero, List.set_cons_succ]
    refine wpAnyH_ready (rs := [31]) (by kernel_rfl) (by simp) ?_
    refine AllReadyH.cons (o := { dst := some 61, op := Op.call { callee := Callee.value (Operand.func 18), args := #[Operand.tmp 60], argTypes := #[3] }, type := 4, pos := "law.go:27", after := #[{ on := 30, ground := Ground.data }, { on := 28, ground := Ground.chain }, { on := 28, ground := Ground.guard }], guard := some (28, false) }) rfl (fun K hK => ?_) AllReadyH.nil
    go_simp
    go_wp2_with (refine (HRo.out _ hbq433).mono ?_; rintro e xq434 ⟨rfl, hstep⟩)
    have hbq434 := below_on hbq433 hstep
    refine hK.out _ _ (HS.out _ hbq434) (fun hHq434 => ?_)
    clear hK K hHq433 hstep
    refine wpAnyH_take (i := 35) (oi := { dst := some 65, op := Op.move (Operand.tmp 64), type := 4, pos := "law.go:27", after := #[{ on := 34, ground := Ground.data }, { on := 31, ground := Ground.chain }, { on := 28, ground := Ground.guard }], guard := some (28, false) }) (v := ?vq43x72) rfl (by kernel_rfl) (by kernel_rfl) (by kernel_rfl) (fun _ _ _ h => h) (Or.inl ⟨by rfl, ?hyq43x72⟩) (by assumption) ?restq43x72
    case hyq43x72 => (intro w hSw; (try dsimp only at hSw); go_simp; first | done | with_reducible rfl)
    simp only [Act.put, List.setIfInBounds_toArray, List.set_cons_zero, List.set_cons_succ]
    refine wpAnyH_take (i := 36) (oi := { dst := some 66, op := Op.fieldAddr 25 (Operand.tmp 1) 0, type := 0, pos := "law.go:27", after := #[{ on := 35, ground := Ground.guard }], guard := some (35, true) }) (v := undef) rfl (by kernel_rfl) (by kernel_rfl) (by kernel_rfl) (fun _ _ _ h => h) (Or.inr ⟨by rfl, rfl⟩) (by assumption) ?_
    simp only [Act.put, List.setIfInBounds_toArray, List.set_cons_zero, List.set_cons_succ]
    refine wpAnyH_take (i := 37) (oi := { dst := some 67, op := Op.load 3 (Operand.tmp 66), type := 3, pos := "law.go:27", after := #[{ on := 36, ground := Ground.data }, { on := 35, ground := Ground.guard }], guard := some (35, true) }) (v := undef) rfl (by kernel_rfl) (by kernel_rfl) (by kernel_rfl) (fun _ _ _ h => h) (Or.inr ⟨by rfl, rfl⟩) (by assumption) ?_
    simp only [Act.put, List.setIfInBounds_toArray, List.set_cons_zero, List.set_cons_succ]
    refine wpAnyH_take (i := 38) (oi := { dst := some 68, op := Op.binOp BinOp.leq 3 (Operand.tmp 67) (Operand.const (Value.int IntKind.i64 17)) 3, type := 4, pos := "law.go:27", after := #[{ on := 37, ground := Ground.data }, { on := 35, ground := Ground.guard }], guard := some (35, true) }) (v := undef) rfl (by kernel_rfl) (by kernel_rfl) (by kernel_rfl) (fun _ _ _ h => h) (Or.inr ⟨by rfl, rfl⟩) (by assumption) ?_
    simp only [Act.put, List.setIfInBounds_toArray, List.set_cons_zero, List.set_cons_succ]
    refine wpAnyH_take (i := 39) (oi := { dst := some 69, op := Op.pick (Operand.tmp 65) (Operand.tmp 68) (Operand.const (Value.bool false)), type := 4, pos := "law.go:27", after := #[{ on := 35, ground := Ground.data }, { on := 38, ground := Ground.data }, { on := 28, ground := Ground.guard }], guard := some (28, false) }) (v := ?vq43x73) rfl (by kernel_rfl) (by kernel_rfl) (by kernel_rfl) (fun _ _ _ h => h) (Or.inl ⟨by rfl, ?hyq43x73⟩) (by assumption) ?restq43x73
    case hyq43x73 => (intro w hSw; (try dsimp only at hSw); go_simp; first | done | with_reducible rfl)
    simp only [Act.put, List.setIfInBounds_toArray, List.set_cons_zero, List.set_cons_succ]
    refine wpAnyH_take (i := 40) (oi := { dst := some 70, op := Op.binOp BinOp.neq 4 (Operand.tmp 61) (Operand.tmp 69) 4, type := 4, pos := "law.go:27", after := #[{ on := 31, ground := Ground.data }, { on := 39, ground := Ground.data }, { on := 28, ground := Ground.guard }], guard := some (28, false) }) (v := ?vq43x74) rfl (by kernel_rfl) (by kernel_rfl) (by kernel_rfl) (fun _ _ _ h => h) (Or.inl ⟨by rfl, ?hyq43x74⟩) (by assumption) ?restq43x74
    case hyq43x74 => (intro w hSw; (try dsimp only at hSw); go_simp; first | done | with_reducible rfl)
    simp only [Act.put, List.setIfInBounds_toArray, List.set_cons_zero, List.set_cons_succ]
    refine wpAnyH_take (i := 41) (oi := { dst := some 71, op := Op.pick (Operand.tmp 58) (Operand.const (Value.bool true)) (Operand.tmp 70), type := 4, pos := "law.go:27", after := #[{ on := 28, ground := Ground.data }, { on := 40, ground := Ground.data }], guard := none }) (v := ?vq43x75) rfl (by kernel_rfl) (by kernel_rfl) (by kernel_rfl) (fun _ _ _ h => h) (Or.inl ⟨by rfl, ?hyq43x75⟩) (by assumption) ?restq43x75
    case hyq43x75 => (intro w hSw; (try dsimp only at hSw); go_simp; first | done | with_reducible rfl)
    simp only [Act.put, List.setIfInBounds_toArray, List.set_cons_zero, List.set_cons_succ]
    refine wpAnyH_take (i := 42) (oi := { dst := some 72, op := Op.move (Operand.tmp 71), type := 4, pos := "law.go:27", after := #[{ on := 41, ground := Ground.data }, { on := 35, ground := Ground.chain }], guard := none }) (v := ?vq43x76) rfl (by kernel_rfl) (by kernel_rfl) (by kernel_rfl) (fun _ _ _ h => h) (Or.inl ⟨by rfl, ?hyq43x76⟩) (by assumption) ?restq43x76
    case hyq43x76 => (intro w hSw; (try dsimp only at hSw); go_simp; first | done | with_reducible rfl)
    simp only [Act.put, List.setIfInBounds_toArray, List.set_cons_zero, List.set_cons_succ]
    refine wpAnyH_take (i := 43) (oi := { dst := some 73, op := Op.fieldAddr 25 (Operand.tmp 1) 0, type := 0, pos := "law.go:27", after := #[{ on := 42, ground := Ground.guard }], guard := some (42, false) }) (v := ?vq43x77) rfl (by kernel_rfl) (by kernel_rfl) (by kernel_rfl) (fun _ _ _ h => h) (Or.inl ⟨by rfl, ?hyq43x77⟩) (by assumption) ?restq43x77
    case hyq43x77 => (intro w hSw; (try dsimp only at hSw); go_simp; first | done | with_reducible rfl)
    simp only [Act.put, List.setIfInBounds_toArray, List.set_cons_zero, List.set_cons_succ]
    refine wpAnyH_take (i := 44) (oi := { dst := some 74, op := Op.load 3 (Operand.tmp 73), type := 3, pos := "law.go:27", after := #[{ on := 43, ground := Ground.data }, { on := 42, ground := Ground.guard }], guard := some (42, false) }) (v := ?vq43x78) rfl (by kernel_rfl) (by kernel_rfl) (by kernel_rfl) (fun _ _ _ h => h) (Or.inl ⟨by rfl, ?hyq43x78⟩) (by assumption) ?restq43x78
    case hyq43x78 => (intro w hSw; (try dsimp only at hSw); go_simp; first | done | with_reducible rfl)
    simp only [Act.put, List.setIfInBounds_toArray, List.set_cons_zero, List.set_cons_succ]
    refine wpAnyH_take (i := 46) (oi := { dst := some 76, op := Op.move (Operand.tmp 7), type := 9, pos := "law.go:27", after := #[{ on := 42, ground := Ground.guard }], guard := some (42, false) }) (v := ?vq43x79) rfl (by kernel_rfl) (by kernel_rfl) (by kernel_rfl) (fun _ _ _ h => h) (Or.inl ⟨by rfl, ?hyq43x79⟩) (by assumption) ?restq43x79
    case hyq43x79 => (intro w hSw; (try dsimp only at hSw); go_simp; first | done | with_reducible rfl)
    simp only [Act.put, List.setIfInBounds_toArray, List.set_cons_zero, List.set_cons_succ]
    refine wpAnyH_ready (rs := [45]) (by kernel_rfl) (by simp) ?_
    refine AllReadyH.cons (o := { dst := some 75, op := Op.call { callee := Callee.value (Operand.func 16), args := #[Operand.tmp 74], argTypes := #[3] }, type := 9, pos := "law.go:27", after := #[{ on := 44, ground := Ground.data }, { on := 42, ground := Ground.chain }, { on := 42, ground := Ground.guard }], guard := some (42, false) }) rfl (fun K hK => ?_) AllReadyH.nil
    go_simp
    go_wp2_with (refine (HLz.out _ hbq434).mono ?_; rintro e xq435 ⟨rfl, hstep⟩)
    have hbq435 := below_on hbq434 hstep
    refine hK.out _ _ (HS.out _ hbq435) (fun hHq435 => ?_)
    clear hK K hHq434 hstep
    refine wpAnyH_take (i := 47) (oi := { dst := some 77, op := Op.binOp BinOp.neq 9 (Operand.tmp 75) (Operand.tmp 76) 9, type := 4, pos := "law.go:27", after := #[{ on := 45, ground := Ground.data }, { on := 46, ground := Ground.data }, { on := 42, ground := Ground.guard }], guard := some (42, false) }) (v := ?vq43x80) rfl (by kernel_rfl) (by kernel_rfl) (by kernel_rfl) (fun _ _ _ h => h) (Or.inl ⟨by rfl, ?hyq43x80⟩) (by assumption) ?restq43x80
    case hyq43x80 => (intro w hSw; (try dsimp only at hSw); go_simp; first | done | with_reducible rfl)
    simp only [Act.put, List.setIfInBounds_toArray, List.set_cons_zero, List.set_cons_succ]
    refine wpAnyH_take (i := 48) (oi := { dst := some 78, op := Op.pick (Operand.tmp 72) (Operand.const (Value.bool true)) (Operand.tmp 77), type := 4, pos := "law.go:27", after := #[{ on := 42, ground := Ground.data }, { on := 47, ground := Ground.data }], guard := none }) (v := ?vq43x81) rfl (by kernel_rfl) (by kernel_rfl) (by kernel_rfl) (fun _ _ _ h => h) (Or.inl ⟨by rfl, ?hyq43x81⟩) (by assumption) ?restq43x81
    case hyq43x81 => (intro w hSw; (try dsimp only at hSw); go_simp; first | done | with_reducible rfl)
    simp only [Act.put, List.setIfInBounds_toArray, List.set_cons_zero, List.set_cons_succ]
    refine wpAnyH_done (by kernel_rfl) ?_ _
    clear hHq435
    have HBx := Lib.hid (below_on HB6.out hbq435)
    have HBy := Lib.hid hbq435
    clear hbq435 hbq434 hbq433 hbq432 hbq431 hbq430
    have HOz := Lib.hid (HOb6.out.step HBy.out)
    have HFz := Lib.hid (HF6.out.on hlt6 HBy.out)
    have hltz : w.heap.size < xq435.heap.size := Nat.lt_of_lt_of_le hlt6 HBy.out.size
    have hge := (getF_any es xq435 B P.length cb P rfl (HE.out.step HBx.out) HOz.out hcb (by omega)).mono fun e w' h => h.ok HGp.out
    have HGe := Lib.hid hge
    clear hge
    obtain ⟨c0, c1, c2, c3, c4, c5, c6, c7, c8, c9⟩ := HFz.out
    go_wp2_with fail
    refine HGe.out.mono ?_
    rintro e wg ⟨hbg, Ag, cg, rfl, hrg, hcg⟩
    have HBg := Lib.hid (below_on HBx.out hbg)
    have HFg := Lib.hid (HFz.out.on hltz hbg)
    have hltg : w.heap.size < wg.heap.size := Nat.lt_of_lt_of_le hltz hbg.size
    obtain ⟨wh, hwh⟩ : ∃ W, W = wg.alloc (Obj.cells (frCs f Ag cg) 25) := ⟨_, rfl⟩
    have hbh : Below wg.heap.size wg wh := by rw [hwh]; exact below_box _ _
    have hfh : FrC wh wg.heap.size f Ag cg := by rw [hwh]; exact FrC.box wg f Ag cg _
    have HBh := Lib.hid (below_on HBg.out hbh)
    have hfz := HFg.out.on hltg hbh
    have HWh := Lib.hid (show wg.alloc (Obj.cells #[.int .i64 f.kind, .int .i64 f.seq, .int .i64 f.got, .int .i64 f.stream, .int .i64 f.amount, .int .i64 f.code, .string f.who, .string f.name, .float .f64 f.weight, .slice Ag f.bytes.length cg] 25) = wh from hwh.symm)
    have hsm := rsame_any f f Ag A cg c wh ((hrg.mono (fun k hk => hk.2)).step hbh) (HA.out.step HBh.out)
    rw [decide_eq_true rfl] at hsm
    have HSm := Lib.hid hsm
    clear hbg hwh hbh hsm hrg HGe c0 c1 c2 c3 c4 c5 c6 c7 c8 c9
    simp only [frV] at HSm
    simp only [frV]
    obtain ⟨c0, c1, c2, c3, c4, c5, c6, c7, c8, c9⟩ := hfh
    obtain ⟨d0, d1, d2, d3, d4, d5, d6, d7, d8, d9⟩ := hfz
    have hp1024 : (P.length : Int) ≤ 1024 := by omega
    go_wp2_with (rw [HWh.out])
    refine HSm.out.mono ?_
    rintro e wi ⟨rfl, hbi⟩
    have HBi := Lib.hid (below_on HBh.out hbi)
    clear hbi c0 c1 c2 c3 c4 c5 c6 c7 c8 c9 d0 d1 d2 d3 d4 d5 d6 d7 d8 d9
    go_wp2_with fail
    go_ret
    exact ⟨rfl, HBi.out⟩
set_option maxRecDepth 8000 in
set_option maxHeartbeats 8000000 in
theorem puts_no (es : Er → Addr) (w : World) (f : Fr) (A : Option Addr) (c : Nat) (hE : GEnv w es) (h18 : E18 w.heap.size w es) (hl : f.lens) (hf : f.fits) (hA : RdC (· < w.heap.size) w A (bvs f.bytes)) (hck : checkF f = false) :
    Calls Tryd.prog 9 #[frV f A c] w (OkPost w) := by
  obtain ⟨w1, hw1, hb1, hs1, hf1⟩ := box_world w f A c
  have hal : Calls Tryd.prog 14 #[] (w.alloc (Obj.cells (frCs f A c) 25)) (OkPost w1) := by rw [← hw1]; exact alive05 es w1 (hE.step hb1).fenv
  have HAl := Lib.hid hal
  have HB1 := Lib.hid hb1
  have HS1 := Lib.hid hs1
  have HF1 := Lib.hid hf1
  have HE := Lib.hid hE
  have H18 := Lib.hid h18
  have HA := Lib.hid hA
  have HLn := Lib.hid hl
  have HFt := Lib.hid hf
  have HCk := Lib.hid hck
  have hee := run_err_same
  have hen := run_err_neq_same
  clear hw1 hb1 hal hE hA hl hs1 hf1 hck h18 hf
  unfold frV
  go_enter Tryd.func9, Tryd.ntmps9
  go_wp2_with fail
  refine HAl.out.mono ?_
  rintro e w2 ⟨rfl, hb2⟩
  have HB2 := Lib.hid (below_on HB1.out hb2)
  have HF2 := Lib.hid (HF1.out.on (by rw [HS1.out]; omega) hb2)
  have hz2 : w.heap.size + 1 ≤ w2.heap.size := by rw [← HS1.out]; exact hb2.size
  obtain ⟨c0, c1, c2, c3, c4, c5, c6, c7, c8, c9⟩ := HF2.out
  have hp := (putF_any es f A c w2 (HE.out.step HB2.out).fenv HLn.out (HA.out.step HB2.out)).mono fun e w' h => h.er HCk.out
  have HP := Lib.hid hp
  clear hb2 hp
  unfold frV at HP
  go_wp2_with fail
  refine HP.out.mono ?_
  rintro e w3 ⟨rfl, hb3⟩
  have HB3 := Lib.hid (below_on HB2.out hb3)
  have HF3 := Lib.hid (HF2.out.on (by omega) hb3)
  have hlt3 : w.heap.size < w3.heap.size := by have := hb3.size; omega
  have hrp : ∀ W H va vb base, Below w3.heap.size w3 W → TableAt base W H va vb → Calls Tryd.prog 36 #[.pointer (some ⟨H, 0, none⟩), frV f A c] W _ := fun W H va vb base hW hT =>
    (rput_any f A c W H base va vb hT HLn.out HFt.out.1 ((HA.out.step HB3.out).step hW)).mono fun e w' h => h.er HCk.out
  have HRp := Lib.hid hrp
  clear hrp hb3 HP c0 c1 c2 c3 c4 c5 c6 c7 c8 c9
  obtain ⟨c0, c1, c2, c3, c4, c5, c6, c7, c8, c9⟩ := HF3.out
  unfold errV
  go_wp2_with fail
  go_region_held3 (fun w' => w'.cell? ⟨w.heap.size, 0, none⟩ = some (.int .i64 f.kind) ∧ w'.cell? ⟨w.heap.size, 1, none⟩ = some (.int .i64 f.seq) ∧ w'.cell? ⟨w.heap.size, 2, none⟩ = some (.int .i64 f.got) ∧ w'.cell? ⟨w.heap.size, 3, none⟩ = some (.int .i64 f.stream) ∧ w'.cell? ⟨w.heap.size, 4, none⟩ = some (.int .i64 f.amount) ∧ w'.cell? ⟨w.heap.size, 5, none⟩ = some (.int .i64 f.code) ∧ w'.cell? ⟨w.heap.size, 6, none⟩ = some (.string f.who) ∧ w'.cell? ⟨w.heap.size, 7, none⟩ = some (.string f.name) ∧ w'.cell? ⟨w.heap.size, 8, none⟩ = some (.float .f64 f.weight) ∧ w'.cell? ⟨w.heap.size, 9, none⟩ = some (.slice A f.bytes.length c))
    (first | go_keep | exact FrC.conj (FrC.on HF3.out hlt3 ((Below.refl _ _).drew.trans hbn)) | exact FrC.conj (FrC.on HF3.out hlt3 (((Below.refl _ _).drew.trans hbn).trans (hbp.mono ((Below.refl _ _).drew.trans hbn).size))))
    (first
      | (go_at_call 22; refine (new_any _).mono ?_; rintro e w4 ⟨H, va, vb, rfl, hT, hbn⟩)
      | (go_at_call 36; refine (HRp.out _ H va vb _ (by exact (Below.refl _ _).drew.trans hbn) hT).mono ?_; rintro e w5 ⟨rfl, hbp⟩))
  have hb35 : Below w3.heap.size w3 w5 := ((Below.refl _ _).drew.trans hbn).trans (hbp.mono ((Below.refl _ _).drew.trans hbn).size)
  have HB5 := Lib.hid (below_on HB3.out hb35)
  have HF5 := Lib.hid (HF3.out.on hlt3 hb35)
  have hlt5 : w.heap.size < w5.heap.size := by have := hb35.size; omega
  clear hb35 hbn hbp hT c0 c1 c2 c3 c4 c5 c6 c7 c8 c9
  obtain ⟨c0, c1, c2, c3, c4, c5, c6, c7, c8, c9⟩ := HF5.out
  obtain ⟨L, hL⟩ : ∃ L : ByteArray, L = ⟨(layoutF f.kind).toArray⟩ := ⟨_, rfl⟩
  have hce : Calls Tryd.prog 37 #[.agg #[.int .i64 f.kind, .int .i64 0, .int .i64 0, .int .i64 0, .int .i64 0, .int .i64 0, .string ⟨#[]⟩, .string ⟨#[]⟩, .float .f64 0, .slice none 0 0]] w5 (fun e w' => (∃ v, e = .returned (.tuple #[.string L, v])) ∧ Below w5.heap.size w5 w') :=
    (rcells_any (Fr.of f.kind) none 0 w5 (RdC.nil _ _ _)).mono fun e w' h => ⟨by obtain ⟨_, A, c, rfl, _⟩ := h; exact ⟨_, by rw [hL]; rfl⟩, h.1⟩
  have hly : ∀ W, Calls Tryd.prog 16 #[.int .i64 f.kind] W (fun e w' => e = .returned (.string L) ∧ Below W.heap.size W w') := fun W => by
    rw [hL]; exact layout_any f.kind W
  have HCe := Lib.hid hce
  have HLy := Lib.hid hly
  clear hce hly hL
  go_wp2_with fail
  (with_reducible refine HCe.out.mono ?_)
  rintro e w6 ⟨⟨vc, rfl⟩, hb6⟩
  have HB6 := Lib.hid (below_on HB5.out hb6)
  have HF6 := Lib.hid (HF5.out.on hlt5 hb6)
  have hlt6 : w.heap.size < w6.heap.size := by have := hb6.size; omega
  have hS : ∀ W, Below w6.heap.size w6 W → (fun w' => w'.cell? ⟨w.heap.size, 0, none⟩ = some (.int .i64 f.kind) ∧ w'.cell? ⟨w.heap.size, 1, none⟩ = some (.int .i64 f.seq) ∧ w'.cell? ⟨w.heap.size, 2, none⟩ = some (.int .i64 f.got) ∧ w'.cell? ⟨w.heap.size, 3, none⟩ = some (.int .i64 f.stream) ∧ w'.cell? ⟨w.heap.size, 4, none⟩ = some (.int .i64 f.amount) ∧ w'.cell? ⟨w.heap.size, 5, none⟩ = some (.int .i64 f.code) ∧ w'.cell? ⟨w.heap.size, 6, none⟩ = some (.string f.who) ∧ w'.cell? ⟨w.heap.size, 7, none⟩ = some (.string f.name) ∧ w'.cell? ⟨w.heap.size, 8, none⟩ = some (.float .f64 f.weight) ∧ w'.cell? ⟨w.heap.size, 9, none⟩ = some (.slice A f.bytes.length c) ∧ w'.cell? ⟨0, 0, none⟩ = some (.iface 147 (.pointer (some (es .frame)))) ∧ (convert 23 9 (.slice none 0 0)).run Tryd.prog w' = .ok (.string ⟨#[]⟩) w') W := fun W hW => by
    obtain ⟨b0, b1, b2, b3, b4, b5, b6, b7, b8, b9⟩ := HF6.out.on hlt6 hW
    exact ⟨b0, b1, b2, b3, b4, b5, b6, b7, b8, b9, (((HE.out.step HB6.out).step hW).frame).at, run_str_of Tryd.underlying23 Tryd.underlying5 Tryd.underlying9 rfl (RdC.nil (fun _ => True) _ _)⟩
  have hch : ∀ W, Below w6.heap.size w6 W → Calls Tryd.prog 15 #[.agg #[.int .i64 f.kind, .int .i64 f.seq, .int .i64 f.got, .int .i64 f.stream, .int .i64 f.amount, .int .i64 f.code, .string f.who, .string f.name, .float .f64 f.weight, .slice A f.bytes.length c]] W (fun e w' => e = .returned (.iface 147 (.pointer (some (es .frame)))) ∧ Below W.heap.size W w') := fun W hW =>
    (checkF_any es f A c W ((HE.out.step HB6.out).step hW).fenv HLn.out ((HA.out.step HB6.out).step hW)).mono fun e w' h => ⟨by rw [h.1, HCk.out]; rfl, h.2⟩
  obtain ⟨nm, hnm⟩ : ∃ n : Int, n = ((erIx .frame + 1 : Nat) : Int) := ⟨_, rfl⟩
  have hnu : ∀ W, Below w6.heap.size w6 W → Calls Tryd.prog 29 #[.iface 147 (.pointer (some (es .frame)))] W (fun e w' => e = .returned (.int .i64 nm) ∧ Below W.heap.size W w') := fun W hW => by
    rw [hnm]; exact num_err es W .frame ((H18.out.step HB6.out).step hW)
  have hro : ∀ W, Below w6.heap.size w6 W → Calls Tryd.prog 18 #[.int .i64 f.kind] W (fun e w' => e = .returned (.bool (rowF f.kind)) ∧ Below W.heap.size W w') := fun W hW =>
    (row_any f.kind W).mono fun e w' h => ⟨h.1, by rw [h.2]; exact Below.refl _ _⟩
  have hly : ∀ W, Below w6.heap.size w6 W → Calls Tryd.prog 16 #[.int .i64 f.kind] W (fun e w' => e = .returned (.string L) ∧ Below W.heap.size W w') := fun W hW => HLy.out W
  have hrw : rowF f.kind = decide (7 ≤ f.kind ∧ f.kind ≤ 17) := rfl
  have hrw2 : ¬ 7 ≤ f.kind → rowF f.kind = false := fun h => by rw [hrw]; exact decide_eq_false (fun hh => h hh.1)
  have hrw3 : 7 ≤ f.kind → rowF f.kind = decide (f.kind ≤ 17) := fun h => by rw [hrw]; exact decide_eq_decide.2 ⟨fun hh => hh.2, fun hh => ⟨h, hh⟩⟩
  have HS := Lib.hid hS
  have HCh := Lib.hid hch
  have HNu := Lib.hid hnu
  have HRo := Lib.hid hro
  have HLz := Lib.hid hly
  have HR2 := Lib.hid hrw2
  have HR3 := Lib.hid hrw3
  clear hS hch hnu hro hly hrw hrw2 hrw3 hb6 c0 c1 c2 c3 c4 c5 c6 c7 c8 c9 HCe hnm
  generalize rowF f.kind = rw at *
  go_wp2_with fail
  by_cases hk7 : 7 ≤ f.kind
  · have HX := Lib.hid (HR3.out hk7)
    have hx := HX.out
    subst hx
    have hbq820 : Below w6.heap.size w6 w6.drew := (Below.refl _ _).drew
    refine wp_region_held_drew (S := (fun w' => w'.cell? ⟨w.heap.size, 0, none⟩ = some (.int .i64 f.kind) ∧ w'.cell? ⟨w.heap.size, 1, none⟩ = some (.int .i64 f.seq) ∧ w'.cell? ⟨w.heap.size, 2, none⟩ = some (.int .i64 f.got) ∧ w'.cell? ⟨w.heap.size, 3, none⟩ = some (.int .i64 f.stream) ∧ w'.cell? ⟨w.heap.size, 4, none⟩ = some (.int .i64 f.amount) ∧ w'.cell? ⟨w.heap.size, 5, none⟩ = some (.int .i64 f.code) ∧ w'.cell? ⟨w.heap.size, 6, none⟩ = some (.string f.who) ∧ w'.cell? ⟨w.heap.size, 7, none⟩ = some (.string f.name) ∧ w'.cell? ⟨w.heap.size, 8, none⟩ = some (.float .f64 f.weight) ∧ w'.cell? ⟨w.heap.size, 9, none⟩ = some (.slice A f.bytes.length c) ∧ w'.cell? ⟨0, 0, none⟩ = some (.iface 147 (.pointer (some (es .frame)))) ∧ (convert 23 9 (.slice none 0 0)).run Tryd.prog w' = .ok (.string ⟨#[]⟩) w')) (by kernel_rfl) (HS.out _ hbq820) (fun hHq820 => ?_)
    refine wpAnyH_take (i := 0) (oi := { dst := some 30, op := Op.move (Operand.tmp 3), type := 23, pos := "law.go:27", after := #[], guard := none }) (v := ?vq82x83) rfl (by kernel_rfl) (by kernel_rfl) (by kernel_rfl) (fun _ _ _ h => h) (Or.inl ⟨by rfl, ?hyq82x83⟩) (by assumption) ?restq82x83
    case hyq82x83 => (intro w hSw; (try dsimp only at hSw); go_simp; first | done | with_reducible rfl)
    simp only [Act.put, List.setIfInBounds_toArray, List.set_cons_zero, List.set_cons_succ]
    refine wpAnyH_take (i := 1) (oi := { dst := some 31, op := Op.convert 23 9 (Operand.tmp 30), type := 9, pos := "law.go:27", after := #[{ on := 0, ground := Ground.data }], guard := none }) (v := ?vq82x84) rfl (by kernel_rfl) (by kernel_rfl) (by kernel_rfl) (fun _ _ _ h => h) (Or.inl ⟨by rfl, ?hyq82x84⟩) (by assumption) ?restq82x84
    case hyq82x84 => (intro w hSw; (try dsimp only at hSw); go_simp; first | done | with_reducible rfl)
    simp only [Act.put, List.setIfInBounds_toArray, List.set_cons_zero, List.set_cons_succ]
    refine wpAnyH_take (i := 2) (oi := { dst := some 32, op := Op.move (Operand.tmp 5), type := 23, pos := "law.go:27", after := #[], guard := none }) (v := ?vq82x85) rfl (by kernel_rfl) (by kernel_rfl) (by kernel_rfl) (fun _ _ _ h => h) (Or.inl ⟨by rfl, ?hyq82x85⟩) (by assumption) ?restq82x85
    case hyq82x85 => (intro w hSw; (try dsimp only at hSw); go_simp; first | done | with_reducible rfl)
    simp only [Act.put, List.setIfInBounds_toArray, List.set_cons_zero, List.set_cons_succ]
    refine wpAnyH_take (i := 3) (oi := { dst := some 33, op := Op.convert 23 9 (Operand.tmp 32), type := 9, pos := "law.go:27", after := #[{ on := 2, ground := Ground.data }], guard := none }) (v := ?vq82x86) rfl (by kernel_rfl) (by kernel_rfl) (by kernel_rfl) (fun _ _ _ h => h) (Or.inl ⟨by rfl, ?hyq82x86⟩) (by assumption) ?restq82x86
    case hyq82x86 => (intro w hSw; (try dsimp only at hSw); go_simp; first | done | with_reducible rfl)
    simp only [Act.put, List.setIfInBounds_toArray, List.set_cons_zero, List.set_cons_succ]
    refine wpAnyH_take (i := 4) (oi := { dst := some 34, op := Op.binOp BinOp.neq 9 (Operand.tmp 31) (Operand.tmp 33) 9, type := 4, pos := "law.go:27", after := #[{ on := 1, ground := Ground.data }, { on := 3, ground := Ground.data }], guard := none }) (v := ?vq82x87) rfl (by kernel_rfl) (by kernel_rfl) (by kernel_rfl) (fun _ _ _ h => h) (Or.inl ⟨by rfl, ?hyq82x87⟩) (by assumption) ?restq82x87
    case hyq82x87 => (intro w hSw; (try dsimp only at hSw); go_simp; first | done | with_reducible rfl)
    simp only [Act.put, List.setIfInBounds_toArray, List.set_cons_zero, List.set_cons_succ]
    refine wpAnyH_take (i := 5) (oi := { dst := some 35, op := Op.move (Operand.tmp 34), type := 4, pos := "law.go:27", after := #[{ on := 4, ground := Ground.data }], guard := none }) (v := ?vq82x88) rfl (by kernel_rfl) (by kernel_rfl) (by kernel_rfl) (fun _ _ _ h => h) (Or.inl ⟨by rfl, ?hyq82x88⟩) (by assumption) ?restq82x88
    case hyq82x88 => (intro w hSw; (try dsimp only at hSw); go_simp; first | done | with_reducible rfl)
    simp only [Act.put, List.setIfInBounds_toArray, List.set_cons_zero, List.set_cons_succ]
    refine wpAnyH_take (i := 6) (oi := { dst := some 36, op := Op.move (Operand.tmp 4), type := 30, pos := "law.go:27", after := #[{ on := 5, ground := Ground.guard }], guard := some (5, false) }) (v := ?vq82x89) rfl (by kernel_rfl) (by kernel_rfl) (by kernel_rfl) (fun _ _ _ h => h) (Or.inl ⟨by rfl, ?hyq82x89⟩) (by assumption) ?restq82x89
    case hyq82x89 => (intro w hSw; (try dsimp only at hSw); go_simp; first | done | with_reducible rfl)
    simp only [Act.put, List.setIfInBounds_toArray, List.set_cons_zero, List.set_cons_succ]
    refine wpAnyH_take (i := 7) (oi := { dst := some 37, op := Op.binOp BinOp.eql 30 (Operand.tmp 36) (Operand.const Value.nilIface) 30, type := 4, pos := "law.go:27", after := #[{ on := 6, ground := Ground.data }, { on := 5, ground := Ground.guard }], guard := some (5, false) }) (v := ?vq82x90) rfl (by kernel_rfl) (by kernel_rfl) (by kernel_rfl) (fun _ _ _ h => h) (Or.inl ⟨by rfl, ?hyq82x90⟩) (by assumption) ?restq82x90
    case hyq82x90 => (intro w hSw; (try dsimp only at hSw); go_simp; first | done | with_reducible rfl)
    simp only [Act.put, List.setIfInBounds_toArray, List.set_cons_zero, List.set_cons_succ]
    refine wpAnyH_take (i := 8) (oi := { dst := some 38, op := Op.move (Operand.tmp 6), type := 4, pos := "law.go:27", after := #[{ on := 5, ground := Ground.guard }], guard := some (5, false) }) (v := ?vq82x91) rfl (by kernel_rfl) (by kernel_rfl) (by kernel_rfl) (fun _ _ _ h => h) (Or.inl ⟨by rfl, ?hyq82x91⟩) (by assumption) ?restq82x91
    case hyq82x91 => (intro w hSw; (try dsimp only at hSw); go_simp; first | done | with_reducible rfl)
    simp only [Act.put, List.setIfInBounds_toArray, List.set_cons_zero, List.set_cons_succ]
    refine wpAnyH_take (i := 9) (oi := { dst := some 39, op := Op.binOp BinOp.neq 4 (Operand.tmp 37) (Operand.tmp 38) 4, type := 4, pos := "law.go:27", after := #[{ on := 7, ground := Ground.data }, { on := 8, ground := Ground.data }, { on := 5, ground := Ground.guard }], guard := some (5, false) }) (v := ?vq82x92) rfl (by kernel_rfl) (by kernel_rfl) (by kernel_rfl) (fun _ _ _ h => h) (Or.inl ⟨by rfl, ?hyq82x92⟩) (by assumption) ?restq82x92
    case hyq82x92 => (intro w hSw; (try dsimp only at hSw); go_simp; first | done | with_reducible rfl)
    simp only [Act.put, List.setIfInBounds_toArray, List.set_cons_zero, List.set_cons_succ]
    refine wpAnyH_take (i := 10) (oi := { dst := some 40, op := Op.pick (Operand.tmp 35) (Operand.const (Value.bool true)) (Operand.tmp 39), type := 4, pos := "law.go:27", after := #[{ on := 5, ground := Ground.data }, { on := 9, ground := Ground.data }], guard := none }) (v := ?vq82x93) rfl (by kernel_rfl) (by kernel_rfl) (by kernel_rfl) (fun _ _ _ h => h) (Or.inl ⟨by rfl, ?hyq82x93⟩) (by assumption) ?restq82x93
    case hyq82x93 => (intro w hSw; (try dsimp only at hSw); go_simp; first | done | with_reducible rfl)
    simp only [Act.put, List.setIfInBounds_toArray, List.set_cons_zero, List.set_cons_succ]
    refine wpAnyH_take (i := 11) (oi := { dst := some 41, op := Op.move (Operand.tmp 40), type := 4, pos := "law.go:27", after := #[{ on := 10, ground := Ground.data }, { on := 5, ground := Ground.chain }], guard := none }) (v := ?vq82x94) rfl (by kernel_rfl) (by kernel_rfl) (by kernel_rfl) (fun _ _ _ h => h) (Or.inl ⟨by rfl, ?hyq82x94⟩) (by assumption) ?restq82x94
    case hyq82x94 => (intro w hSw; (try dsimp only at hSw); go_simp; first | done | with_reducible rfl)
    simp only [Act.put, List.setIfInBounds_toArray, List.set_cons_zero, List.set_cons_succ]
    refine wpAnyH_take (i := 12) (oi := { dst := some 42, op := Op.move (Operand.tmp 4), type := 30, pos := "law.go:27", after := #[{ on := 11, ground := Ground.guard }], guard := some (11, false) }) (v := ?vq82x95) rfl (by kernel_rfl) (by kernel_rfl) (by kernel_rfl) (fun _ _ _ h => h) (Or.inl ⟨by rfl, ?hyq82x95⟩) (by assumption) ?restq82x95
    case hyq82x95 => (intro w hSw; (try dsimp only at hSw); go_simp; first | done | with_reducible rfl)
    simp only [Act.put, List.setIfInBounds_toArray, List.set_cons_zero, List.set_cons_succ]
    refine wpAnyH_take (i := 13) (oi := { dst := some 43, op := Op.binOp BinOp.neq 30 (Operand.tmp 42) (Operand.const Value.nilIface) 30, type := 4, pos := "law.go:27", after := #[{ on := 12, ground := Ground.data }, { on := 11, ground := Ground.guard }], guard := some (11, false) }) (v := ?vq82x96) rfl (by kernel_rfl) (by kernel_rfl) (by kernel_rfl) (fun _ _ _ h => h) (Or.inl ⟨by rfl, ?hyq82x96⟩) (by assumption) ?restq82x96
    case hyq82x96 => (intro w hSw; (try dsimp only at hSw); go_simp; first | done | with_reducible rfl)
    simp only [Act.put, List.setIfInBounds_toArray, List.set_cons_zero, List.set_cons_succ]
    refine wpAnyH_take (i := 14) (oi := { dst := some 44, op := Op.move (Operand.tmp 43), type := 4, pos := "law.go:27", after := #[{ on := 13, ground := Ground.data }, { on := 11, ground := Ground.chain }, { on := 11, ground := Ground.guard }], guard := some (11, false) }) (v := ?vq82x97) rfl (by kernel_rfl) (by kernel_rfl) (by kernel_rfl) (fun _ _ _ h => h) (Or.inl ⟨by rfl, ?hyq82x97⟩) (by assumption) ?restq82x97
    case hyq82x97 => (intro w hSw; (try dsimp only at hSw); go_simp; first | done | with_reducible rfl)
    simp only [Act.put, List.setIfInBounds_toArray, List.set_cons_zero, List.set_cons_succ]
    refine wpAnyH_take (i := 15) (oi := { dst := some 45, op := Op.move (Operand.tmp 4), type := 30, pos := "law.go:27", after := #[{ on := 14, ground := Ground.guard }], guard := some (14, true) }) (v := ?vq82x98) rfl (by kernel_rfl) (by kernel_rfl) (by kernel_rfl) (fun _ _ _ h => h) (Or.inl ⟨by rfl, ?hyq82x98⟩) (by assumption) ?restq82x98
    case hyq82x98 => (intro w hSw; (try dsimp only at hSw); go_simp; first | done | with_reducible rfl)
    simp only [Act.put, List.setIfInBounds_toArray, List.set_cons_zero, List.set_cons_succ]
    refine wpAnyH_take (i := 16) (oi := { dst := some 46, op := Op.load 30 (Operand.global 0), type := 30, pos := "law.go:27", after := #[{ on := 14, ground := Ground.guard }], guard := some (14, true) }) (v := ?vq82x99) rfl (by kernel_rfl) (by kernel_rfl) (by kernel_rfl) (fun _ _ _ h => h) (Or.inl ⟨by rfl, ?hyq82x99⟩) (by assumption) ?restq82x99
    case hyq82x99 => (intro w hSw; (try dsimp only at hSw); go_simp; first | done | with_reducible rfl)
    simp only [Act.put, List.setIfInBounds_toArray, List.set_cons_zero, List.set_cons_succ]
    refine wpAnyH_take (i := 17) (oi := { dst := some 47, op := Op.binOp BinOp.neq 30 (Operand.tmp 45) (Operand.tmp 46) 30, type := 4, pos := "law.go:27", after := #[{ on := 15, ground := Ground.data }, { on := 16, ground := Ground.data }, { on := 14, ground := Ground.guard }], guard := some (14, true) }) (v := ?vq82x100) rfl (by kernel_rfl) (by kernel_rfl) (by kernel_rfl) (fun _ _ _ h => h) (Or.inl ⟨by rfl, ?hyq82x100⟩) (by assumption) ?restq82x100
    case hyq82x100 => (intro w hSw; (try dsimp only at hSw); go_simp; first | done | with_reducible rfl)
    simp only [Act.put, List.setIfInBounds_toArray, List.set_cons_zero, List.set_cons_succ]
    refine wpAnyH_take (i := 18) (oi := { dst := some 48, op := Op.pick (Operand.tmp 44) (Operand.tmp 47) (Operand.const (Value.bool false)), type := 4, pos := "law.go:27", after := #[{ on := 14, ground := Ground.data }, { on := 17, ground := Ground.data }, { on := 11, ground := Ground.guard }], guard := some (11, false) }) (v := ?vq82x101) rfl (by kernel_rfl) (by kernel_rfl) (by kernel_rfl) (fun _ _ _ h => h) (Or.inl ⟨by rfl, ?hyq82x101⟩) (by assumption) ?restq82x101
    case hyq82x101 => (intro w hSw; (try dsimp only at hSw); go_simp; first | done | with_reducible rfl)
    simp only [Act.put, List.setIfInBounds_toArray, List.set_cons_zero, List.set_cons_succ]
    refine wpAnyH_take (i := 19) (oi := { dst := some 49, op := Op.pick (Operand.tmp 41) (Operand.const (Value.bool true)) (Operand.tmp 48), type := 4, pos := "law.go:27", after := #[{ on := 11, ground := Ground.data }, { on := 18, ground := Ground.data }], guard := none }) (v := ?vq82x102) rfl (by kernel_rfl) (by kernel_rfl) (by kernel_rfl) (fun _ _ _ h => h) (Or.inl ⟨by rfl, ?hyq82x102⟩) (by assumption) ?restq82x102
    case hyq82x102 => (intro w hSw; (try dsimp only at hSw); go_simp; first | done | with_reducible rfl)
    simp only [Act.put, List.setIfInBounds_toArray, List.set_cons_zero, List.set_cons_succ]
    refine wpAnyH_take (i := 20) (oi := { dst := some 50, op := Op.move (Operand.tmp 49), type := 4, pos := "law.go:27", after := #[{ on := 19, ground := Ground.data }, { on := 14, ground := Ground.chain }], guard := none }) (v := ?vq82x103) rfl (by kernel_rfl) (by kernel_rfl) (by kernel_rfl) (fun _ _ _ h => h) (Or.inl ⟨by rfl, ?hyq82x103⟩) (by assumption) ?restq82x103
    case hyq82x103 => (intro w hSw; (try dsimp only at hSw); go_simp; first | done | with_reducible rfl)
    simp only [Act.put, List.setIfInBounds_toArray, List.set_cons_zero, List.set_cons_succ]
    refine wpAnyH_take (i := 21) (oi := { dst := some 51, op := Op.load 25 (Operand.tmp 1), type := 25, pos := "law.go:27", after := #[{ on := 20, ground := Ground.guard }], guard := some (20, false) }) (v := ?vq82x104) rfl (by kernel_rfl) (by kernel_rfl) (by kernel_rfl) (fun _ _ _ h => h) (Or.inl ⟨by rfl, ?hyq82x104⟩) (by assumption) ?restq82x104
    case hyq82x104 => (intro w hSw; (try dsimp only at hSw); go_simp; first | done | with_reducible rfl)
    simp only [Act.put, List.setIfInBounds_toArray, List.set_cons_zero, List.set_cons_succ]
    refine wpAnyH_take (i := 24) (oi := { dst := some 54, op := Op.move (Operand.tmp 4), type := 30, pos := "law.go:27", after := #[{ on := 20, ground := Ground.guard }], guard := some (20, false) }) (v := ?vq82x105) rfl (by kernel_rfl) (by kernel_rfl) (by kernel_rfl) (fun _ _ _ h => h) (Or.inl ⟨by rfl, ?hyq82x105⟩) (by assumption) ?restq82x105
    case hyq82x105 => (intro w hSw; (try dsimp only at hSw); go_simp; first | done | with_reducible rfl)
    simp only [Act.put, List.setIfInBounds_toArray, List.set_cons_zero, List.set_cons_succ]
    refine wpAnyH_ready (rs := [22]) (by kernel_rfl) (by simp) ?_
    refine AllReadyH.cons (o := { dst := some 52, op := Op.call { callee := Callee.value (Operand.func 15), args := #[Operand.tmp 51], argTypes := #[25] }, type := 30, pos := "law.go:27", after := #[{ on := 21, ground := Ground.data }, { on := 20, ground := Ground.chain }, { on := 20, ground := Ground.guard }], guard := some (20, false) }) rfl (fun K hK => ?_) AllReadyH.nil
    go_simp
    go_wp2_with (refine (HCh.out _ hbq820).mono ?_; rintro e xq821 ⟨rfl, hstep⟩)
    have hbq821 := below_on hbq820 hstep
    refine hK.out _ _ (HS.out _ hbq821) (fun hHq821 => ?_)
    clear hK K hHq820 hstep
    refine wpAnyH_ready (rs := [23]) (by kernel_rfl) (by simp) ?_
    refine AllReadyH.cons (o := { dst := some 53, op := Op.call { callee := Callee.value (Operand.func 29), args := #[Operand.tmp 52], argTypes := #[30] }, type := 3, pos := "law.go:27", after := #[{ on := 22, ground := Ground.data }, { on := 22, ground := Ground.chain }, { on := 20, ground := Ground.guard }], guard := some (20, false) }) rfl (fun K hK => ?_) AllReadyH.nil
    go_simp
    go_wp2_with (refine (HNu.out _ hbq821).mono ?_; rintro e xq822 ⟨rfl, hstep⟩)
    have hbq822 := below_on hbq821 hstep
    refine hK.out _ _ (HS.out _ hbq822) (fun hHq822 => ?_)
    clear hK K hHq821 hstep
    refine wpAnyH_ready (rs := [25]) (by kernel_rfl) (by simp) ?_
    refine AllReadyH.cons (o := { dst := some 55, op := Op.call { callee := Callee.value (Operand.func 29), args := #[Operand.tmp 54], argTypes := #[30] }, type := 3, pos := "law.go:27", after := #[{ on := 24, ground := Ground.data }, { on := 23, ground := Ground.chain }, { on := 20, ground := Ground.guard }], guard := some (20, false) }) rfl (fun K hK => ?_) AllReadyH.nil
    go_simp
    go_wp2_with (refine (HNu.out _ hbq822).mono ?_; rintro e xq823 ⟨rfl, hstep⟩)
    have hbq823 := below_on hbq822 hstep
    refine hK.out _ _ (HS.out _ hbq823) (fun hHq823 => ?_)
    clear hK K hHq822 hstep
    refine wpAnyH_take (i := 26) (oi := { dst := some 56, op := Op.binOp BinOp.neq 3 (Operand.tmp 53) (Operand.tmp 55) 3, type := 4, pos := "law.go:27", after := #[{ on := 23, ground := Ground.data }, { on := 25, ground := Ground.data }, { on := 20, ground := Ground.guard }], guard := some (20, false) }) (v := ?vq82x106) rfl (by kernel_rfl) (by kernel_rfl) (by kernel_rfl) (fun _ _ _ h => h) (Or.inl ⟨by rfl, ?hyq82x106⟩) (by assumption) ?restq82x106
    case hyq82x106 => (intro w hSw; (try dsimp only at hSw); go_simp; first | done | with_reducible rfl)
    simp only [Act.put, List.setIfInBounds_toArray, List.set_cons_zero, List.set_cons_succ]
    refine wpAnyH_take (i := 27) (oi := { dst := some 57, op := Op.pick (Operand.tmp 50) (Operand.const (Value.bool true)) (Operand.tmp 56), type := 4, pos := "law.go:27", after := #[{ on := 20, ground := Ground.data }, { on := 26, ground := Ground.data }], guard := none }) (v := ?vq82x107) rfl (by kernel_rfl) (by kernel_rfl) (by kernel_rfl) (fun _ _ _ h => h) (Or.inl ⟨by rfl, ?hyq82x107⟩) (by assumption) ?restq82x107
    case hyq82x107 => (intro w hSw; (try dsimp only at hSw); go_simp; first | done | with_reducible rfl)
    simp only [Act.put, List.setIfInBounds_toArray, List.set_cons_zero, List.set_cons_succ]
    refine wpAnyH_take (i := 28) (oi := { dst := some 58, op := Op.move (Operand.tmp 57), type := 4, pos := "law.go:27", after := #[{ on := 27, ground := Ground.data }, { on := 25, ground := Ground.chain }], guard := none }) (v := ?vq82x108) rfl (by kernel_rfl) (by kernel_rfl) (by kernel_rfl) (fun _ _ _ h => h) (Or.inl ⟨by rfl, ?hyq82x108⟩) (by assumption) ?restq82x108
    case hyq82x108 => (intro w hSw; (try dsimp only at hSw); go_simp; first | done | with_reducible rfl)
    simp only [Act.put, List.setIfInBounds_toArray, List.set_cons_zero, List.set_cons_succ]
    refine wpAnyH_take (i := 29) (oi := { dst := some 59, op := Op.fieldAddr 25 (Operand.tmp 1) 0, type := 0, pos := "law.go:27", after := #[{ on := 28, ground := Ground.guard }], guard := some (28, false) }) (v := ?vq82x109) rfl (by kernel_rfl) (by kernel_rfl) (by kernel_rfl) (fun _ _ _ h => h) (Or.inl ⟨by rfl, ?hyq82x109⟩) (by assumption) ?restq82x109
    case hyq82x109 => (intro w hSw; (try dsimp only at hSw); go_simp; first | done | with_reducible rfl)
    simp only [Act.put, List.setIfInBounds_toArray, List.set_cons_zero, List.set_cons_succ]
    refine wpAnyH_take (i := 30) (oi := { dst := some 60, op := Op.load 3 (Operand.tmp 59), type := 3, pos := "law.go:27", after := #[{ on := 29, ground := Ground.data }, { on := 28, ground := Ground.guard }], guard := some (28, false) }) (v := ?vq82x110) rfl (by kernel_rfl) (by kernel_rfl) (by kernel_rfl) (fun _ _ _ h => h) (Or.inl ⟨by rfl, ?hyq82x110⟩) (by assumption) ?restq82x110
    case hyq82x110 => (intro w hSw; (try dsimp only at hSw); go_simp; first | done | with_reducible rfl)
    simp only [Act.put, List.setIfInBounds_toArray, List.set_cons_zero, List.set_cons_succ]
    refine wpAnyH_take (i := 32) (oi := { dst := some 62, op := Op.fieldAddr 25 (Operand.tmp 1) 0, type := 0, pos := "law.go:27", after := #[{ on := 28, ground := Ground.guard }], guard := some (28, false) }) (v := ?vq82x111) rfl (by kernel_rfl) (by kernel_rfl) (by kernel_rfl) (fun _ _ _ h => h) (Or.inl ⟨by rfl, ?hyq82x111⟩) (by assumption) ?restq82x111
    case hyq82x111 => (intro w hSw; (try dsimp only at hSw); go_simp; first | done | with_reducible rfl)
    simp only [Act.put, List.setIfInBounds_toArray, List.set_cons_zero, List.set_cons_succ]
    refine wpAnyH_take (i := 33) (oi := { dst := some 63, op := Op.load 3 (Operand.tmp 62), type := 3, pos := "law.go:27", after := #[{ on := 32, ground := Ground.data }, { on := 28, ground := Ground.guard }], guard := some (28, false) }) (v := ?vq82x112) rfl (by kernel_rfl) (by kernel_rfl) (by kernel_rfl) (fun _ _ _ h => h) (Or.inl ⟨by rfl, ?hyq82x112⟩) (by assumption) ?restq82x112
    case hyq82x112 => (intro w hSw; (try dsimp only at hSw); go_simp; first | done | with_reducible rfl)
    simp only [Act.put, List.setIfInBounds_toArray, List.set_cons_zero, List.set_cons_succ]
    refine wpAnyH_take (i := 34) (oi := { dst := some 64, op := Op.binOp BinOp.geq 3 (Operand.tmp 63) (Operand.const (Value.int IntKind.i64 7)) 3, type := 4, pos := "law.go:27", after := #[{ on := 33, ground := Ground.data }, { on := 28, ground := Ground.guard }], guard := some (28, false) }) (v := ?vq82x113) rfl (by kernel_rfl) (by kernel_rfl) (by kernel_rfl) (fun _ _ _ h => h) (Or.inl ⟨by rfl, ?hyq82x113⟩) (by assumption) ?restq82x113
    case hyq82x113 => (intro w hSw; (try dsimp only at hSw); go_simp; first | done | with_reducible rfl)
    simp only [Act.put, List.setIfInBounds_toArray, List.set_cons_zero, List.set_cons_succ]
    refine wpAnyH_ready (rs := [31]) (by kernel_rfl) (by simp) ?_
    refine AllReadyH.cons (o := { dst := some 61, op := Op.call { callee := Callee.value (Operand.func 18), args := #[Operand.tmp 60], argTypes := #[3] }, type := 4, pos := "law.go:27", after := #[{ on := 30, ground := Ground.data }, { on := 28, ground := Ground.chain }, { on := 28, ground := Ground.guard }], guard := some (28, false) }) rfl (fun K hK => ?_) AllReadyH.nil
    go_simp
    go_wp2_with (refine (HRo.out _ hbq823).mono ?_; rintro e xq824 ⟨rfl, hstep⟩)
    have hbq824 := below_on hbq823 hstep
    refine hK.out _ _ (HS.out _ hbq824) (fun hHq824 => ?_)
    clear hK K hHq823 hstep
    refine wpAnyH_take (i := 35) (oi := { dst := some 65, op := Op.move (Operand.tmp 64), type := 4, pos := "law.go:27", after := #[{ on := 34, ground := Ground.data }, { on := 31, ground := Ground.chain }, { on := 28, ground := Ground.guard }], guard := some (28, false) }) (v := ?vq82x114) rfl (by kernel_rfl) (by kernel_rfl) (by kernel_rfl) (fun _ _ _ h => h) (Or.inl ⟨by rfl, ?hyq82x114⟩) (by assumption) ?restq82x114
    case hyq82x114 => (intro w hSw; (try dsimp only at hSw); go_simp; first | done | with_reducible rfl)
    simp only [Act.put, List.setIfInBounds_toArray, List.set_cons_zero, List.set_cons_succ]
    refine wpAnyH_take (i := 36) (oi := { dst := some 66, op := Op.fieldAddr 25 (Operand.tmp 1) 0, type := 0, pos := "law.go:27", after := #[{ on := 35, ground := Ground.guard }], guard := some (35, true) }) (v := ?vq82x115) rfl (by kernel_rfl) (by kernel_rfl) (by kernel_rfl) (fun _ _ _ h => h) (Or.inl ⟨by rfl, ?hyq82x115⟩) (by assumption) ?restq82x115
    case hyq82x115 => (intro w hSw; (try dsimp only at hSw); go_simp; first | done | with_reducible rfl)
    simp only [Act.put, List.setIfInBounds_toArray, List.set_cons_zero, List.set_cons_succ]
    refine wpAnyH_take (i := 37) (oi := { dst := some 67, op := Op.load 3 (Operand.tmp 66), type := 3, pos := "law.go:27", after := #[{ on := 36, ground := Ground.data }, { on := 35, ground := Ground.guard }], guard := some (35, true) }) (v := ?vq82x116) rfl (by kernel_rfl) (by kernel_rfl) (by kernel_rfl) (fun _ _ _ h => h) (Or.inl ⟨by rfl, ?hyq82x116⟩) (by assumption) ?restq82x116
    case hyq82x116 => (intro w hSw; (try dsimp only at hSw); go_simp; first | done | with_reducible rfl)
    simp only [Act.put, List.setIfInBounds_toArray, List.set_cons_zero, List.set_cons_succ]
    refine wpAnyH_take (i := 38) (oi := { dst := some 68, op := Op.binOp BinOp.leq 3 (Operand.tmp 67) (Operand.const (Value.int IntKind.i64 17)) 3, type := 4, pos := "law.go:27", after := #[{ on := 37, ground := Ground.data }, { on := 35, ground := Ground.guard }], guard := some (35, true) }) (v := ?vq82x117) rfl (by kernel_rfl) (by kernel_rfl) (by kernel_rfl) (fun _ _ _ h => h) (Or.inl ⟨by rfl, ?hyq82x117⟩) (by assumption) ?restq82x117
    case hyq82x117 => (intro w hSw; (try dsimp only at hSw); go_simp; first | done | with_reducible rfl)
    simp only [Act.put, List.setIfInBounds_toArray, List.set_cons_zero, List.set_cons_succ]
    refine wpAnyH_take (i := 39) (oi := { dst := some 69, op := Op.pick (Operand.tmp 65) (Operand.tmp 68) (Operand.const (Value.bool false)), type := 4, pos := "law.go:27", after := #[{ on := 35, ground := Ground.data }, { on := 38, ground := Ground.data }, { on := 28, ground := Ground.guard }], guard := some (28, false) }) (v := ?vq82x118) rfl (by kernel_rfl) (by kernel_rfl) (by kernel_rfl) (fun _ _ _ h => h) (Or.inl ⟨by rfl, ?hyq82x118⟩) (by assumption) ?restq82x118
    case hyq82x118 => (intro w hSw; (try dsimp only at hSw); go_simp; first | done | with_reducible rfl)
    simp only [Act.put, List.setIfInBounds_toArray, List.set_cons_zero, List.set_cons_succ]
    refine wpAnyH_take (i := 40) (oi := { dst := some 70, op := Op.binOp BinOp.neq 4 (Operand.tmp 61) (Operand.tmp 69) 4, type := 4, pos := "law.go:27", after := #[{ on := 31, ground := Ground.data }, { on := 39, ground := Ground.data }, { on := 28, ground := Ground.guard }], guard := some (28, false) }) (v := ?vq82x119) rfl (by kernel_rfl) (by kernel_rfl) (by kernel_rfl) (fun _ _ _ h => h) (Or.inl ⟨by rfl, ?hyq82x119⟩) (by assumption) ?restq82x119
    case hyq82x119 => (intro w hSw; (try dsimp only at hSw); go_simp; first | done | with_reducible rfl)
    simp only [Act.put, List.setIfInBounds_toArray, List.set_cons_zero, List.set_cons_succ]
    refine wpAnyH_take (i := 41) (oi := { dst := some 71, op := Op.pick (Operand.tmp 58) (Operand.const (Value.bool true)) (Operand.tmp 70), type := 4, pos := "law.go:27", after := #[{ on := 28, ground := Ground.data }, { on := 40, ground := Ground.data }], guard := none }) (v := ?vq82x120) rfl (by kernel_rfl) (by kernel_rfl) (by kernel_rfl) (fun _ _ _ h => h) (Or.inl ⟨by rfl, ?hyq82x120⟩) (by assumption) ?restq82x120
    case hyq82x120 => (intro w hSw; (try dsimp only at hSw); go_simp; first | done | with_reducible rfl)
    simp only [Act.put, List.setIfInBounds_toArray, List.set_cons_zero, List.set_cons_succ]
    refine wpAnyH_take (i := 42) (oi := { dst := some 72, op := Op.move (Operand.tmp 71), type := 4, pos := "law.go:27", after := #[{ on := 41, ground := Ground.data }, { on := 35, ground := Ground.chain }], guard := none }) (v := ?vq82x121) rfl (by kernel_rfl) (by kernel_rfl) (by kernel_rfl) (fun _ _ _ h => h) (Or.inl ⟨by rfl, ?hyq82x121⟩) (by assumption) ?restq82x121
    case hyq82x121 => (intro w hSw; (try dsimp only at hSw); go_simp; first | done | with_reducible rfl)
    simp only [Act.put, List.setIfInBounds_toArray, List.set_cons_zero, List.set_cons_succ]
    refine wpAnyH_take (i := 43) (oi := { dst := some 73, op := Op.fieldAddr 25 (Operand.tmp 1) 0, type := 0, pos := "law.go:27", after := #[{ on := 42, ground := Ground.guard }], guard := some (42, false) }) (v := ?vq82x122) rfl (by kernel_rfl) (by kernel_rfl) (by kernel_rfl) (fun _ _ _ h => h) (Or.inl ⟨by rfl, ?hyq82x122⟩) (by assumption) ?restq82x122
    case hyq82x122 => (intro w hSw; (try dsimp only at hSw); go_simp; first | done | with_reducible rfl)
    simp only [Act.put, List.setIfInBounds_toArray, List.set_cons_zero, List.set_cons_succ]
    refine wpAnyH_take (i := 44) (oi := { dst := some 74, op := Op.load 3 (Operand.tmp 73), type := 3, pos := "law.go:27", after := #[{ on := 43, ground := Ground.data }, { on := 42, ground := Ground.guard }], guard := some (42, false) }) (v := ?vq82x123) rfl (by kernel_rfl) (by kernel_rfl) (by kernel_rfl) (fun _ _ _ h => h) (Or.inl ⟨by rfl, ?hyq82x123⟩) (by assumption) ?restq82x123
    case hyq82x123 => (intro w hSw; (try dsimp only at hSw); go_simp; first | done | with_reducible rfl)
    simp only [Act.put, List.setIfInBounds_toArray, List.set_cons_zero, List.set_cons_succ]
    refine wpAnyH_take (i := 46) (oi := { dst := some 76, op := Op.move (Operand.tmp 7), type := 9, pos := "law.go:27", after := #[{ on := 42, ground := Ground.guard }], guard := some (42, false) }) (v := ?vq82x124) rfl (by kernel_rfl) (by kernel_rfl) (by kernel_rfl) (fun _ _ _ h => h) (Or.inl ⟨by rfl, ?hyq82x124⟩) (by assumption) ?restq82x124
    case hyq82x124 => (intro w hSw; (try dsimp only at hSw); go_simp; first | done | with_reducible rfl)
    simp only [Act.put, List.setIfInBounds_toArray, List.set_cons_zero, List.set_cons_succ]
    refine wpAnyH_ready (rs := [45]) (by kernel_rfl) (by simp) ?_
    refine AllReadyH.cons (o := { dst := some 75, op := Op.call { callee := Callee.value (Operand.func 16), args := #[Operand.tmp 74], argTypes := #[3] }, type := 9, pos := "law.go:27", after := #[{ on := 44, ground := Ground.data }, { on := 42, ground := Ground.chain }, { on := 42, ground := Ground.guard }], guard := some (42, false) }) rfl (fun K hK => ?_) AllReadyH.nil
    go_simp
    go_wp2_with (refine (HLz.out _ hbq824).mono ?_; rintro e xq825 ⟨rfl, hstep⟩)
    have hbq825 := below_on hbq824 hstep
    refine hK.out _ _ (HS.out _ hbq825) (fun hHq825 => ?_)
    clear hK K hHq824 hstep
    refine wpAnyH_take (i := 47) (oi := { dst := some 77, op := Op.binOp BinOp.neq 9 (Operand.tmp 75) (Operand.tmp 76) 9, type := 4, pos := "law.go:27", after := #[{ on := 45, ground := Ground.data }, { on := 46, ground := Ground.data }, { on := 42, ground := Ground.guard }], guard := some (42, false) }) (v := ?vq82x125) rfl (by kernel_rfl) (by kernel_rfl) (by kernel_rfl) (fun _ _ _ h => h) (Or.inl ⟨by rfl, ?hyq82x125⟩) (by assumption) ?restq82x125
    case hyq82x125 => (intro w hSw; (try dsimp only at hSw); go_simp; first | done | with_reducible rfl)
    simp only [Act.put, List.setIfInBounds_toArray, List.set_cons_zero, List.set_cons_succ]
    refine wpAnyH_take (i := 48) (oi := { dst := some 78, op := Op.pick (Operand.tmp 72) (Operand.const (Value.bool true)) (Operand.tmp 77), type := 4, pos := "law.go:27", after := #[{ on := 42, ground := Ground.data }, { on := 47, ground := Ground.data }], guard := none }) (v := ?vq82x126) rfl (by kernel_rfl) (by kernel_rfl) (by kernel_rfl) (fun _ _ _ h => h) (Or.inl ⟨by rfl, ?hyq82x126⟩) (by assumption) ?restq82x126
    case hyq82x126 => (intro w hSw; (try dsimp only at hSw); go_simp; first | done | with_reducible rfl)
    simp only [Act.put, List.setIfInBounds_toArray, List.set_cons_zero, List.set_cons_succ]
    refine wpAnyH_done (by kernel_rfl) ?_ _
    clear hHq825
    have HBx := Lib.hid (below_on HB6.out hbq825)
    have HBy := Lib.hid hbq825
    clear hbq825 hbq824 hbq823 hbq822 hbq821 hbq820
    go_wp2_with fail
    go_ret
    exact ⟨rfl, HBx.out⟩
  · have HX := Lib.hid (HR2.out (by omega))
    have hx := HX.out
    subst hx
    have hk7d : decide (7 ≤ f.kind) = false := decide_eq_false hk7
    have hbq1270 : Below w6.heap.size w6 w6.drew := (Below.refl _ _).drew
    refine wp_region_held_drew (S := (fun w' => w'.cell? ⟨w.heap.size, 0, none⟩ = some (.int .i64 f.kind) ∧ w'.cell? ⟨w.heap.size, 1, none⟩ = some (.int .i64 f.seq) ∧ w'.cell? ⟨w.heap.size, 2, none⟩ = some (.int .i64 f.got) ∧ w'.cell? ⟨w.heap.size, 3, none⟩ = some (.int .i64 f.stream) ∧ w'.cell? ⟨w.heap.size, 4, none⟩ = some (.int .i64 f.amount) ∧ w'.cell? ⟨w.heap.size, 5, none⟩ = some (.int .i64 f.code) ∧ w'.cell? ⟨w.heap.size, 6, none⟩ = some (.string f.who) ∧ w'.cell? ⟨w.heap.size, 7, none⟩ = some (.string f.name) ∧ w'.cell? ⟨w.heap.size, 8, none⟩ = some (.float .f64 f.weight) ∧ w'.cell? ⟨w.heap.size, 9, none⟩ = some (.slice A f.bytes.length c) ∧ w'.cell? ⟨0, 0, none⟩ = some (.iface 147 (.pointer (some (es .frame)))) ∧ (convert 23 9 (.slice none 0 0)).run Tryd.prog w' = .ok (.string ⟨#[]⟩) w')) (by kernel_rfl) (HS.out _ hbq1270) (fun hHq1270 => ?_)
    refine wpAnyH_take (i := 0) (oi := { dst := some 30, op := Op.move (Operand.tmp 3), type := 23, pos := "law.go:27", after := #[], guard := none }) (v := ?vq127x128) rfl (by kernel_rfl) (by kernel_rfl) (by kernel_rfl) (fun _ _ _ h => h) (Or.inl ⟨by rfl, ?hyq127x128⟩) (by assumption) ?restq127x128
    case hyq127x128 => (intro w hSw; (try dsimp only at hSw); go_simp; first | done | with_reducible rfl)
    simp only [Act.put, List.setIfInBounds_toArray, List.set_cons_zero, List.set_cons_succ]
    refine wpAnyH_take (i := 1) (oi := { dst := some 31, op := Op.convert 23 9 (Operand.tmp 30), type := 9, pos := "law.go:27", after := #[{ on := 0, ground := Ground.data }], guard := none }) (v := ?vq127x129) rfl (by kernel_rfl) (by kernel_rfl) (by kernel_rfl) (fun _ _ _ h => h) (Or.inl ⟨by rfl, ?hyq127x129⟩) (by assumption) ?restq127x129
    case hyq127x129 => (intro w hSw; (try dsimp only at hSw); go_simp; first | done | with_reducible rfl)
    simp only [Act.put, List.setIfInBounds_toArray, List.set_cons_zero, List.set_cons_succ]
    refine wpAnyH_take (i := 2) (oi := { dst := some 32, op := Op.move (Operand.tmp 5), type := 23, pos := "law.go:27", after := #[], guard := none }) (v := ?vq127x130) rfl (by kernel_rfl) (by kernel_rfl) (by kernel_rfl) (fun _ _ _ h => h) (Or.inl ⟨by rfl, ?hyq127x130⟩) (by assumption) ?restq127x130
    case hyq127x130 => (intro w hSw; (try dsimp only at hSw); go_simp; first | done | with_reducible rfl)
    simp only [Act.put, List.setIfInBounds_toArray, List.set_cons_zero, List.set_cons_succ]
    refine wpAnyH_take (i := 3) (oi := { dst := some 33, op := Op.convert 23 9 (Operand.tmp 32), type := 9, pos := "law.go:27", after := #[{ on := 2, ground := Ground.data }], guard := none }) (v := ?vq127x131) rfl (by kernel_rfl) (by kernel_rfl) (by kernel_rfl) (fun _ _ _ h => h) (Or.inl ⟨by rfl, ?hyq127x131⟩) (by assumption) ?restq127x131
    case hyq127x131 => (intro w hSw; (try dsimp only at hSw); go_simp; first | done | with_reducible rfl)
    simp only [Act.put, List.setIfInBounds_toArray, List.set_cons_zero, List.set_cons_succ]
    refine wpAnyH_take (i := 4) (oi := { dst := some 34, op := Op.binOp BinOp.neq 9 (Operand.tmp 31) (Operand.tmp 33) 9, type := 4, pos := "law.go:27", after := #[{ on := 1, ground := Ground.data }, { on := 3, ground := Ground.data }], guard := none }) (v := ?vq127x132) rfl (by kernel_rfl) (by kernel_rfl) (by kernel_rfl) (fun _ _ _ h => h) (Or.inl ⟨by rfl, ?hyq127x132⟩) (by assumption) ?restq127x132
    case hyq127x132 => (intro w hSw; (try dsimp only at hSw); go_simp; first | done | with_reducible rfl)
    simp only [Act.put, List.setIfInBounds_toArray, List.set_cons_zero, List.set_cons_succ]
    refine wpAnyH_take (i := 5) (oi := { dst := some 35, op := Op.move (Operand.tmp 34), type := 4, pos := "law.go:27", after := #[{ on := 4, ground := Ground.data }], guard := none }) (v := ?vq127x133) rfl (by kernel_rfl) (by kernel_rfl) (by kernel_rfl) (fun _ _ _ h => h) (Or.inl ⟨by rfl, ?hyq127x133⟩) (by assumption) ?restq127x133
    case hyq127x133 => (intro w hSw; (try dsimp only at hSw); go_simp; first | done | with_reducible rfl)
    simp only [Act.put, List.setIfInBounds_toArray, List.set_cons_zero, List.set_cons_succ]
    refine wpAnyH_take (i := 6) (oi := { dst := some 36, op := Op.move (Operand.tmp 4), type := 30, pos := "law.go:27", after := #[{ on := 5, ground := Ground.guard }], guard := some (5, false) }) (v := ?vq127x134) rfl (by kernel_rfl) (by kernel_rfl) (by kernel_rfl) (fun _ _ _ h => h) (Or.inl ⟨by rfl, ?hyq127x134⟩) (by assumption) ?restq127x134
    case hyq127x134 => (intro w hSw; (try dsimp only at hSw); go_simp; first | done | with_reducible rfl)
    simp only [Act.put, List.setIfInBounds_toArray, List.set_cons_zero, List.set_cons_succ]
    refine wpAnyH_take (i := 7) (oi := { dst := some 37, op := Op.binOp BinOp.eql 30 (Operand.tmp 36) (Operand.const Value.nilIface) 30, type := 4, pos := "law.go:27", after := #[{ on := 6, ground := Ground.data }, { on := 5, ground := Ground.guard }], guard := some (5, false) }) (v := ?vq127x135) rfl (by kernel_rfl) (by kernel_rfl) (by kernel_rfl) (fun _ _ _ h => h) (Or.inl ⟨by rfl, ?hyq127x135⟩) (by assumption) ?restq127x135
    case hyq127x135 => (intro w hSw; (try dsimp only at hSw); go_simp; first | done | with_reducible rfl)
    simp only [Act.put, List.setIfInBounds_toArray, List.set_cons_zero, List.set_cons_succ]
    refine wpAnyH_take (i := 8) (oi := { dst := some 38, op := Op.move (Operand.tmp 6), type := 4, pos := "law.go:27", after := #[{ on := 5, ground := Ground.guard }], guard := some (5, false) }) (v := ?vq127x136) rfl (by kernel_rfl) (by kernel_rfl) (by kernel_rfl) (fun _ _ _ h => h) (Or.inl ⟨by rfl, ?hyq127x136⟩) (by assumption) ?restq127x136
    case hyq127x136 => (intro w hSw; (try dsimp only at hSw); go_simp; first | done | with_reducible rfl)
    simp only [Act.put, List.setIfInBounds_toArray, List.set_cons_zero, List.set_cons_succ]
    refine wpAnyH_take (i := 9) (oi := { dst := some 39, op := Op.binOp BinOp.neq 4 (Operand.tmp 37) (Operand.tmp 38) 4, type := 4, pos := "law.go:27", after := #[{ on := 7, ground := Ground.data }, { on := 8, ground := Ground.data }, { on := 5, ground := Ground.guard }], guard := some (5, false) }) (v := ?vq127x137) rfl (by kernel_rfl) (by kernel_rfl) (by kernel_rfl) (fun _ _ _ h => h) (Or.inl ⟨by rfl, ?hyq127x137⟩) (by assumption) ?restq127x137
    case hyq127x137 => (intro w hSw; (try dsimp only at hSw); go_simp; first | done | with_reducible rfl)
    simp only [Act.put, List.setIfInBounds_toArray, List.set_cons_zero, List.set_cons_succ]
    refine wpAnyH_take (i := 10) (oi := { dst := some 40, op := Op.pick (Operand.tmp 35) (Operand.const (Value.bool true)) (Operand.tmp 39), type := 4, pos := "law.go:27", after := #[{ on := 5, ground := Ground.data }, { on := 9, ground := Ground.data }], guard := none }) (v := ?vq127x138) rfl (by kernel_rfl) (by kernel_rfl) (by kernel_rfl) (fun _ _ _ h => h) (Or.inl ⟨by rfl, ?hyq127x138⟩) (by assumption) ?restq127x138
    case hyq127x138 => (intro w hSw; (try dsimp only at hSw); go_simp; first | done | with_reducible rfl)
    simp only [Act.put, List.setIfInBounds_toArray, List.set_cons_zero, List.set_cons_succ]
    refine wpAnyH_take (i := 11) (oi := { dst := some 41, op := Op.move (Operand.tmp 40), type := 4, pos := "law.go:27", after := #[{ on := 10, ground := Ground.data }, { on := 5, ground := Ground.chain }], guard := none }) (v := ?vq127x139) rfl (by kernel_rfl) (by kernel_rfl) (by kernel_rfl) (fun _ _ _ h => h) (Or.inl ⟨by rfl, ?hyq127x139⟩) (by assumption) ?restq127x139
    case hyq127x139 => (intro w hSw; (try dsimp only at hSw); go_simp; first | done | with_reducible rfl)
    simp only [Act.put, List.setIfInBounds_toArray, List.set_cons_zero, List.set_cons_succ]
    refine wpAnyH_take (i := 12) (oi := { dst := some 42, op := Op.move (Operand.tmp 4), type := 30, pos := "law.go:27", after := #[{ on := 11, ground := Ground.guard }], guard := some (11, false) }) (v := ?vq127x140) rfl (by kernel_rfl) (by kernel_rfl) (by kernel_rfl) (fun _ _ _ h => h) (Or.inl ⟨by rfl, ?hyq127x140⟩) (by assumption) ?restq127x140
    case hyq127x140 => (intro w hSw; (try dsimp only at hSw); go_simp; first | done | with_reducible rfl)
    simp only [Act.put, List.setIfInBounds_toArray, List.set_cons_zero, List.set_cons_succ]
    refine wpAnyH_take (i := 13) (oi := { dst := some 43, op := Op.binOp BinOp.neq 30 (Operand.tmp 42) (Operand.const Value.nilIface) 30, type := 4, pos := "law.go:27", after := #[{ on := 12, ground := Ground.data }, { on := 11, ground := Ground.guard }], guard := some (11, false) }) (v := ?vq127x141) rfl (by kernel_rfl) (by kernel_rfl) (by kernel_rfl) (fun _ _ _ h => h) (Or.inl ⟨by rfl, ?hyq127x141⟩) (by assumption) ?restq127x141
    case hyq127x141 => (intro w hSw; (try dsimp only at hSw); go_simp; first | done | with_reducible rfl)
    simp only [Act.put, List.setIfInBounds_toArray, List.set_cons_zero, List.set_cons_succ]
    refine wpAnyH_take (i := 14) (oi := { dst := some 44, op := Op.move (Operand.tmp 43), type := 4, pos := "law.go:27", after := #[{ on := 13, ground := Ground.data }, { on := 11, ground := Ground.chain }, { on := 11, ground := Ground.guard }], guard := some (11, false) }) (v := ?vq127x142) rfl (by kernel_rfl) (by kernel_rfl) (by kernel_rfl) (fun _ _ _ h => h) (Or.inl ⟨by rfl, ?hyq127x142⟩) (by assumption) ?restq127x142
    case hyq127x142 => (intro w hSw; (try dsimp only at hSw); go_simp; first | done | with_reducible rfl)
    simp only [Act.put, List.setIfInBounds_toArray, List.set_cons_zero, List.set_cons_succ]
    refine wpAnyH_take (i := 15) (oi := { dst := some 45, op := Op.move (Operand.tmp 4), type := 30, pos := "law.go:27", after := #[{ on := 14, ground := Ground.guard }], guard := some (14, true) }) (v := ?vq127x143) rfl (by kernel_rfl) (by kernel_rfl) (by kernel_rfl) (fun _ _ _ h => h) (Or.inl ⟨by rfl, ?hyq127x143⟩) (by assumption) ?restq127x143
    case hyq127x143 => (intro w hSw; (try dsimp only at hSw); go_simp; first | done | with_reducible rfl)
    simp only [Act.put, List.setIfInBounds_toArray, List.set_cons_zero, List.set_cons_succ]
    refine wpAnyH_take (i := 16) (oi := { dst := some 46, op := Op.load 30 (Operand.global 0), type := 30, pos := "law.go:27", after := #[{ on := 14, ground := Ground.guard }], guard := some (14, true) }) (v := ?vq127x144) rfl (by kernel_rfl) (by kernel_rfl) (by kernel_rfl) (fun _ _ _ h => h) (Or.inl ⟨by rfl, ?hyq127x144⟩) (by assumption) ?restq127x144
    case hyq127x144 => (intro w hSw; (try dsimp only at hSw); go_simp; first | done | with_reducible rfl)
    simp only [Act.put, List.setIfInBounds_toArray, List.set_cons_zero, List.set_cons_succ]
    refine wpAnyH_take (i := 17) (oi := { dst := some 47, op := Op.binOp BinOp.neq 30 (Operand.tmp 45) (Operand.tmp 46) 30, type := 4, pos := "law.go:27", after := #[{ on := 15, ground := Ground.data }, { on := 16, ground := Ground.data }, { on := 14, ground := Ground.guard }], guard := some (14, true) }) (v := ?vq127x145) rfl (by kernel_rfl) (by kernel_rfl) (by kernel_rfl) (fun _ _ _ h => h) (Or.inl ⟨by rfl, ?hyq127x145⟩) (by assumption) ?restq127x145
    case hyq127x145 => (intro w hSw; (try dsimp only at hSw); go_simp; first | done | with_reducible rfl)
    simp only [Act.put, List.setIfInBounds_toArray, List.set_cons_zero, List.set_cons_succ]
    refine wpAnyH_take (i := 18) (oi := { dst := some 48, op := Op.pick (Operand.tmp 44) (Operand.tmp 47) (Operand.const (Value.bool false)), type := 4, pos := "law.go:27", after := #[{ on := 14, ground := Ground.data }, { on := 17, ground := Ground.data }, { on := 11, ground := Ground.guard }], guard := some (11, false) }) (v := ?vq127x146) rfl (by kernel_rfl) (by kernel_rfl) (by kernel_rfl) (fun _ _ _ h => h) (Or.inl ⟨by rfl, ?hyq127x146⟩) (by assumption) ?restq127x146
    case hyq127x146 => (intro w hSw; (try dsimp only at hSw); go_simp; first | done | with_reducible rfl)
    simp only [Act.put, List.setIfInBounds_toArray, List.set_cons_zero, List.set_cons_succ]
    refine wpAnyH_take (i := 19) (oi := { dst := some 49, op := Op.pick (Operand.tmp 41) (Operand.const (Value.bool true)) (Operand.tmp 48), type := 4, pos := "law.go:27", after := #[{ on := 11, ground := Ground.data }, { on := 18, ground := Ground.data }], guard := none }) (v := ?vq127x147) rfl (by kernel_rfl) (by kernel_rfl) (by kernel_rfl) (fun _ _ _ h => h) (Or.inl ⟨by rfl, ?hyq127x147⟩) (by assumption) ?restq127x147
    case hyq127x147 => (intro w hSw; (try dsimp only at hSw); go_simp; first | done | with_reducible rfl)
    simp only [Act.put, List.setIfInBounds_toArray, List.set_cons_zero, List.set_cons_succ]
    refine wpAnyH_take (i := 20) (oi := { dst := some 50, op := Op.move (Operand.tmp 49), type := 4, pos := "law.go:27", after := #[{ on := 19, ground := Ground.data }, { on := 14, ground := Ground.chain }], guard := none }) (v := ?vq127x148) rfl (by kernel_rfl) (by kernel_rfl) (by kernel_rfl) (fun _ _ _ h => h) (Or.inl ⟨by rfl, ?hyq127x148⟩) (by assumption) ?restq127x148
    case hyq127x148 => (intro w hSw; (try dsimp only at hSw); go_simp; first | done | with_reducible rfl)
    simp only [Act.put, List.setIfInBounds_toArray, List.set_cons_zero, List.set_cons_succ]
    refine wpAnyH_take (i := 21) (oi := { dst := some 51, op := Op.load 25 (Operand.tmp 1), type := 25, pos := "law.go:27", after := #[{ on := 20, ground := Ground.guard }], guard := some (20, false) }) (v := ?vq127x149) rfl (by kernel_rfl) (by kernel_rfl) (by kernel_rfl) (fun _ _ _ h => h) (Or.inl ⟨by rfl, ?hyq127x149⟩) (by assumption) ?restq127x149
    case hyq127x149 => (intro w hSw; (try dsimp only at hSw); go_simp; first | done | with_reducible rfl)
    simp only [Act.put, List.setIfInBounds_toArray, List.set_cons_zero, List.set_cons_succ]
    refine wpAnyH_take (i := 24) (oi := { dst := some 54, op := Op.move (Operand.tmp 4), type := 30, pos := "law.go:27", after := #[{ on := 20, ground := Ground.guard }], guard := some (20, false) }) (v := ?vq127x150) rfl (by kernel_rfl) (by kernel_rfl) (by kernel_rfl) (fun _ _ _ h => h) (Or.inl ⟨by rfl, ?hyq127x150⟩) (by assumption) ?restq127x150
    case hyq127x150 => (intro w hSw; (try dsimp only at hSw); go_simp; first | done | with_reducible rfl)
    simp only [Act.put, List.setIfInBounds_toArray, List.set_cons_zero, List.set_cons_succ]
    refine wpAnyH_ready (rs := [22]) (by kernel_rfl) (by simp) ?_
    refine AllReadyH.cons (o := { dst := some 52, op := Op.call { callee := Callee.value (Operand.func 15), args := #[Operand.tmp 51], argTypes := #[25] }, type := 30, pos := "law.go:27", after := #[{ on := 21, ground := Ground.data }, { on := 20, ground := Ground.chain }, { on := 20, ground := Ground.guard }], guard := some (20, false) }) rfl (fun K hK => ?_) AllReadyH.nil
    go_simp
    go_wp2_with (refine (HCh.out _ hbq1270).mono ?_; rintro e xq1271 ⟨rfl, hstep⟩)
    have hbq1271 := below_on hbq1270 hstep
    refine hK.out _ _ (HS.out _ hbq1271) (fun hHq1271 => ?_)
    clear hK K hHq1270 hstep
    refine wpAnyH_ready (rs := [23]) (by kernel_rfl) (by simp) ?_
    refine AllReadyH.cons (o := { dst := some 53, op := Op.call { callee := Callee.value (Operand.func 29), args := #[Operand.tmp 52], argTypes := #[30] }, type := 3, pos := "law.go:27", after := #[{ on := 22, ground := Ground.data }, { on := 22, ground := Ground.chain }, { on := 20, ground := Ground.guard }], guard := some (20, false) }) rfl (fun K hK => ?_) AllReadyH.nil
    go_simp
    go_wp2_with (refine (HNu.out _ hbq1271).mono ?_; rintro e xq1272 ⟨rfl, hstep⟩)
    have hbq1272 := below_on hbq1271 hstep
    refine hK.out _ _ (HS.out _ hbq1272) (fun hHq1272 => ?_)
    clear hK K hHq1271 hstep
    refine wpAnyH_ready (rs := [25]) (by kernel_rfl) (by simp) ?_
    refine AllReadyH.cons (o := { dst := some 55, op := Op.call { callee := Callee.value (Operand.func 29), args := #[Operand.tmp 54], argTypes := #[30] }, type := 3, pos := "law.go:27", after := #[{ on := 24, ground := Ground.data }, { on := 23, ground := Ground.chain }, { on := 20, ground := Ground.guard }], guard := some (20, false) }) rfl (fun K hK => ?_) AllReadyH.nil
    go_simp
    go_wp2_with (refine (HNu.out _ hbq1272).mono ?_; rintro e xq1273 ⟨rfl, hstep⟩)
    have hbq1273 := below_on hbq1272 hstep
    refine hK.out _ _ (HS.out _ hbq1273) (fun hHq1273 => ?_)
    clear hK K hHq1272 hstep
    refine wpAnyH_take (i := 26) (oi := { dst := some 56, op := Op.binOp BinOp.neq 3 (Operand.tmp 53) (Operand.tmp 55) 3, type := 4, pos := "law.go:27", after := #[{ on := 23, ground := Ground.data }, { on := 25, ground := Ground.data }, { on := 20, ground := Ground.guard }], guard := some (20, false) }) (v := ?vq127x151) rfl (by kernel_rfl) (by kernel_rfl) (by kernel_rfl) (fun _ _ _ h => h) (Or.inl ⟨by rfl, ?hyq127x151⟩) (by assumption) ?restq127x151
    case hyq127x151 => (intro w hSw; (try dsimp only at hSw); go_simp; first | done | with_reducible rfl)
    simp only [Act.put, List.setIfInBounds_toArray, List.set_cons_zero, List.set_cons_succ]
    refine wpAnyH_take (i := 27) (oi := { dst := some 57, op := Op.pick (Operand.tmp 50) (Operand.const (Value.bool true)) (Operand.tmp 56), type := 4, pos := "law.go:27", after := #[{ on := 20, ground := Ground.data }, { on := 26, ground := Ground.data }], guard := none }) (v := ?vq127x152) rfl (by kernel_rfl) (by kernel_rfl) (by kernel_rfl) (fun _ _ _ h => h) (Or.inl ⟨by rfl, ?hyq127x152⟩) (by assumption) ?restq127x152
    case hyq127x152 => (intro w hSw; (try dsimp only at hSw); go_simp; first | done | with_reducible rfl)
    simp only [Act.put, List.setIfInBounds_toArray, List.set_cons_zero, List.set_cons_succ]
    refine wpAnyH_take (i := 28) (oi := { dst := some 58, op := Op.move (Operand.tmp 57), type := 4, pos := "law.go:27", after := #[{ on := 27, ground := Ground.data }, { on := 25, ground := Ground.chain }], guard := none }) (v := ?vq127x153) rfl (by kernel_rfl) (by kernel_rfl) (by kernel_rfl) (fun _ _ _ h => h) (Or.inl ⟨by rfl, ?hyq127x153⟩) (by assumption) ?restq127x153
    case hyq127x153 => (intro w hSw; (try dsimp only at hSw); go_simp; first | done | with_reducible rfl)
    simp only [Act.put, List.setIfInBounds_toArray, List.set_cons_zero, List.set_cons_succ]
    refine wpAnyH_take (i := 29) (oi := { dst := some 59, op := Op.fieldAddr 25 (Operand.tmp 1) 0, type := 0, pos := "law.go:27", after := #[{ on := 28, ground := Ground.guard }], guard := some (28, false) }) (v := ?vq127x154) rfl (by kernel_rfl) (by kernel_rfl) (by kernel_rfl) (fun _ _ _ h => h) (Or.inl ⟨by rfl, ?hyq127x154⟩) (by assumption) ?restq127x154
    case hyq127x154 => (intro w hSw; (try dsimp only at hSw); go_simp; first | done | with_reducible rfl)
    simp only [Act.put, List.setIfInBounds_toArray, List.set_cons_zero, List.set_cons_succ]
    refine wpAnyH_take (i := 30) (oi := { dst := some 60, op := Op.load 3 (Operand.tmp 59), type := 3, pos := "law.go:27", after := #[{ on := 29, ground := Ground.data }, { on := 28, ground := Ground.guard }], guard := some (28, false) }) (v := ?vq127x155) rfl (by kernel_rfl) (by kernel_rfl) (by kernel_rfl) (fun _ _ _ h => h) (Or.inl ⟨by rfl, ?hyq127x155⟩) (by assumption) ?restq127x155
    case hyq127x155 => (intro w hSw; (try dsimp only at hSw); go_simp; first | done | with_reducible rfl)
    simp only [Act.put, List.setIfInBounds_toArray, List.set_cons_zero, List.set_cons_succ]
    refine wpAnyH_take (i := 32) (oi := { dst := some 62, op := Op.fieldAddr 25 (Operand.tmp 1) 0, type := 0, pos := "law.go:27", after := #[{ on := 28, ground := Ground.guard }], guard := some (28, false) }) (v := ?vq127x156) rfl (by kernel_rfl) (by kernel_rfl) (by kernel_rfl) (fun _ _ _ h => h) (Or.inl ⟨by rfl, ?hyq127x156⟩) (by assumption) ?restq127x156
    case hyq127x156 => (intro w hSw; (try dsimp only at hSw); go_simp; first | done | with_reducible rfl)
    simp only [Act.put, List.setIfInBounds_toArray, List.set_cons_zero, List.set_cons_succ]
    refine wpAnyH_take (i := 33) (oi := { dst := some 63, op := Op.load 3 (Operand.tmp 62), type := 3, pos := "law.go:27", after := #[{ on := 32, ground := Ground.data }, { on := 28, ground := Ground.guard }], guard := some (28, false) }) (v := ?vq127x157) rfl (by kernel_rfl) (by kernel_rfl) (by kernel_rfl) (fun _ _ _ h => h) (Or.inl ⟨by rfl, ?hyq127x157⟩) (by assumption) ?restq127x157
    case hyq127x157 => (intro w hSw; (try dsimp only at hSw); go_simp; first | done | with_reducible rfl)
    simp only [Act.put, List.setIfInBounds_toArray, List.set_cons_zero, List.set_cons_succ]
    refine wpAnyH_take (i := 34) (oi := { dst := some 64, op := Op.binOp BinOp.geq 3 (Operand.tmp 63) (Operand.const (Value.int IntKind.i64 7)) 3, type := 4, pos := "law.go:27", after := #[{ on := 33, ground := Ground.data }, { on := 28, ground := Ground.guard }], guard := some (28, false) }) (v := ?vq127x158) rfl (by kernel_rfl) (by kernel_rfl) (by kernel_rfl) (fun _ _ _ h => h) (Or.inl ⟨by rfl, ?hyq127x158⟩) (by assumption) ?restq127x158
    case hyq127x158 => (intro w hSw; (try dsimp only at hSw); go_simp; first | done | with_reducible rfl)
    simp only [Act.put, List.setIfInBounds_toArray, List.set_cons_zero, List.set_cons_succ]
    refine wpAnyH_ready (rs := [31]) (by kernel_rfl) (by simp) ?_
    refine AllReadyH.cons (o := { dst := some 61, op := Op.call { callee := Callee.value (Operand.func 18), args := #[Operand.tmp 60], argTypes := #[3] }, type := 4, pos := "law.go:27", after := #[{ on := 30, ground := Ground.data }, { on := 28, ground := Ground.chain }, { on := 28, ground := Ground.guard }], guard := some (28, false) }) rfl (fun K hK => ?_) AllReadyH.nil
    go_simp
    go_wp2_with (refine (HRo.out _ hbq1273).mono ?_; rintro e xq1274 ⟨rfl, hstep⟩)
    have hbq1274 := below_on hbq1273 hstep
    refine hK.out _ _ (HS.out _ hbq1274) (fun hHq1274 => ?_)
    clear hK K hHq1273 hstep
    refine wpAnyH_take (i := 35) (oi := { dst := some 65, op := Op.move (Operand.tmp 64), type := 4, pos := "law.go:27", after := #[{ on := 34, ground := Ground.data }, { on := 31, ground := Ground.chain }, { on := 28, ground := Ground.guard }], guard := some (28, false) }) (v := ?vq127x159) rfl (by kernel_rfl) (by kernel_rfl) (by kernel_rfl) (fun _ _ _ h => h) (Or.inl ⟨by rfl, ?hyq127x159⟩) (by assumption) ?restq127x159
    case hyq127x159 => (intro w hSw; (try dsimp only at hSw); go_simp; first | done | with_reducible rfl)
    simp only [Act.put, List.setIfInBounds_toArray, List.set_cons_zero, List.set_cons_succ]
    refine wpAnyH_take (i := 36) (oi := { dst := some 66, op := Op.fieldAddr 25 (Operand.tmp 1) 0, type := 0, pos := "law.go:27", after := #[{ on := 35, ground := Ground.guard }], guard := some (35, true) }) (v := undef) rfl (by kernel_rfl) (by kernel_rfl) (by kernel_rfl) (fun _ _ _ h => h) (Or.inr ⟨by rfl, rfl⟩) (by assumption) ?_
    simp only [Act.put, List.setIfInBounds_toArray, List.set_cons_zero, List.set_cons_succ]
    refine wpAnyH_take (i := 37) (oi := { dst := some 67, op := Op.load 3 (Operand.tmp 66), type := 3, pos := "law.go:27", after := #[{ on := 36, ground := Ground.data }, { on := 35, ground := Ground.guard }], guard := some (35, true) }) (v := undef) rfl (by kernel_rfl) (by kernel_rfl) (by kernel_rfl) (fun _ _ _ h => h) (Or.inr ⟨by rfl, rfl⟩) (by assumption) ?_
    simp only [Act.put, List.setIfInBounds_toArray, List.set_cons_zero, List.set_cons_succ]
    refine wpAnyH_take (i := 38) (oi := { dst := some 68, op := Op.binOp BinOp.leq 3 (Operand.tmp 67) (Operand.const (Value.int IntKind.i64 17)) 3, type := 4, pos := "law.go:27", after := #[{ on := 37, ground := Ground.data }, { on := 35, ground := Ground.guard }], guard := some (35, true) }) (v := undef) rfl (by kernel_rfl) (by kernel_rfl) (by kernel_rfl) (fun _ _ _ h => h) (Or.inr ⟨by rfl, rfl⟩) (by assumption) ?_
    simp only [Act.put, List.setIfInBounds_toArray, List.set_cons_zero, List.set_cons_succ]
    refine wpAnyH_take (i := 39) (oi := { dst := some 69, op := Op.pick (Operand.tmp 65) (Operand.tmp 68) (Operand.const (Value.bool false)), type := 4, pos := "law.go:27", after := #[{ on := 35, ground := Ground.data }, { on := 38, ground := Ground.data }, { on := 28, ground := Ground.guard }], guard := some (28, false) }) (v := ?vq127x160) rfl (by kernel_rfl) (by kernel_rfl) (by kernel_rfl) (fun _ _ _ h => h) (Or.inl ⟨by rfl, ?hyq127x160⟩) (by assumption) ?restq127x160
    case hyq127x160 => (intro w hSw; (try dsimp only at hSw); go_simp; first | done | with_reducible rfl)
    simp only [Act.put, List.setIfInBounds_toArray, List.set_cons_zero, List.set_cons_succ]
    refine wpAnyH_take (i := 40) (oi := { dst := some 70, op := Op.binOp BinOp.neq 4 (Operand.tmp 61) (Operand.tmp 69) 4, type := 4, pos := "law.go:27", after := #[{ on := 31, ground := Ground.data }, { on := 39, ground := Ground.data }, { on := 28, ground := Ground.guard }], guard := some (28, false) }) (v := ?vq127x161) rfl (by kernel_rfl) (by kernel_rfl) (by kernel_rfl) (fun _ _ _ h => h) (Or.inl ⟨by rfl, ?hyq127x161⟩) (by assumption) ?restq127x161
    case hyq127x161 => (intro w hSw; (try dsimp only at hSw); go_simp; first | done | with_reducible rfl)
    simp only [Act.put, List.setIfInBounds_toArray, List.set_cons_zero, List.set_cons_succ]
    refine wpAnyH_take (i := 41) (oi := { dst := some 71, op := Op.pick (Operand.tmp 58) (Operand.const (Value.bool true)) (Operand.tmp 70), type := 4, pos := "law.go:27", after := #[{ on := 28, ground := Ground.data }, { on := 40, ground := Ground.data }], guard := none }) (v := ?vq127x162) rfl (by kernel_rfl) (by kernel_rfl) (by kernel_rfl) (fun _ _ _ h => h) (Or.inl ⟨by rfl, ?hyq127x162⟩) (by assumption) ?restq127x162
    case hyq127x162 => (intro w hSw; (try dsimp only at hSw); go_simp; first | done | with_reducible rfl)
    simp only [Act.put, List.setIfInBounds_toArray, List.set_cons_zero, List.set_cons_succ]
    refine wpAnyH_take (i := 42) (oi := { dst := some 72, op := Op.move (Operand.tmp 71), type := 4, pos := "law.go:27", after := #[{ on := 41, ground := Ground.data }, { on := 35, ground := Ground.chain }], guard := none }) (v := ?vq127x163) rfl (by kernel_rfl) (by kernel_rfl) (by kernel_rfl) (fun _ _ _ h => h) (Or.inl ⟨by rfl, ?hyq127x163⟩) (by assumption) ?restq127x163
    case hyq127x163 => (intro w hSw; (try dsimp only at hSw); go_simp; first | done | with_reducible rfl)
    simp only [Act.put, List.setIfInBounds_toArray, List.set_cons_zero, List.set_cons_succ]
    refine wpAnyH_take (i := 43) (oi := { dst := some 73, op := Op.fieldAddr 25 (Operand.tmp 1) 0, type := 0, pos := "law.go:27", after := #[{ on := 42, ground := Ground.guard }], guard := some (42, false) }) (v := ?vq127x164) rfl (by kernel_rfl) (by kernel_rfl) (by kernel_rfl) (fun _ _ _ h => h) (Or.inl ⟨by rfl, ?hyq127x164⟩) (by assumption) ?restq127x164
    case hyq127x164 => (intro w hSw; (try dsimp only at hSw); go_simp; first | done | with_reducible rfl)
    simp only [Act.put, List.setIfInBounds_toArray, List.set_cons_zero, List.set_cons_succ]
    refine wpAnyH_take (i := 44) (oi := { dst := some 74, op := Op.load 3 (Operand.tmp 73), type := 3, pos := "law.go:27", after := #[{ on := 43, ground := Ground.data }, { on := 42, ground := Ground.guard }], guard := some (42, false) }) (v := ?vq127x165) rfl (by kernel_rfl) (by kernel_rfl) (by kernel_rfl) (fun _ _ _ h => h) (Or.inl ⟨by rfl, ?hyq127x165⟩) (by assumption) ?restq127x165
    case hyq127x165 => (intro w hSw; (try dsimp only at hSw); go_simp; first | done | with_reducible rfl)
    simp only [Act.put, List.setIfInBounds_toArray, List.set_cons_zero, List.set_cons_succ]
    refine wpAnyH_take (i := 46) (oi := { dst := some 76, op := Op.move (Operand.tmp 7), type := 9, pos := "law.go:27", after := #[{ on := 42, ground := Ground.guard }], guard := some (42, false) }) (v := ?vq127x166) rfl (by kernel_rfl) (by kernel_rfl) (by kernel_rfl) (fun _ _ _ h => h) (Or.inl ⟨by rfl, ?hyq127x166⟩) (by assumption) ?restq127x166
    case hyq127x166 => (intro w hSw; (try dsimp only at hSw); go_simp; first | done | with_reducible rfl)
    simp only [Act.put, List.setIfInBounds_toArray, List.set_cons_zero, List.set_cons_succ]
    refine wpAnyH_ready (rs := [45]) (by kernel_rfl) (by simp) ?_
    refine AllReadyH.cons (o := { dst := some 75, op := Op.call { callee := Callee.value (Operand.func 16), args := #[Operand.tmp 74], argTypes := #[3] }, type := 9, pos := "law.go:27", after := #[{ on := 44, ground := Ground.data }, { on := 42, ground := Ground.chain }, { on := 42, ground := Ground.guard }], guard := some (42, false) }) rfl (fun K hK => ?_) AllReadyH.nil
    go_simp
    go_wp2_with (refine (HLz.out _ hbq1274).mono ?_; rintro e xq1275 ⟨rfl, hstep⟩)
    have hbq1275 := below_on hbq1274 hstep
    refine hK.out _ _ (HS.out _ hbq1275) (fun hHq1275 => ?_)
    clear hK K hHq1274 hstep
    refine wpAnyH_take (i := 47) (oi := { dst := some 77, op := Op.binOp BinOp.neq 9 (Operand.tmp 75) (Operand.tmp 76) 9, type := 4, pos := "law.go:27", after := #[{ on := 45, ground := Ground.data }, { on := 46, ground := Ground.data }, { on := 42, ground := Ground.guard }], guard := some (42, false) }) (v := ?vq127x167) rfl (by kernel_rfl) (by kernel_rfl) (by kernel_rfl) (fun _ _ _ h => h) (Or.inl ⟨by rfl, ?hyq127x167⟩) (by assumption) ?restq127x167
    case hyq127x167 => (intro w hSw; (try dsimp only at hSw); go_simp; first | done | with_reducible rfl)
    simp only [Act.put, List.setIfInBounds_toArray, List.set_cons_zero, List.set_cons_succ]
    refine wpAnyH_take (i := 48) (oi := { dst := some 78, op := Op.pick (Operand.tmp 72) (Operand.const (Value.bool true)) (Operand.tmp 77), type := 4, pos := "law.go:27", after := #[{ on := 42, ground := Ground.data }, { on := 47, ground := Ground.data }], guard := none }) (v := ?vq127x168) rfl (by kernel_rfl) (by kernel_rfl) (by kernel_rfl) (fun _ _ _ h => h) (Or.inl ⟨by rfl, ?hyq127x168⟩) (by assumption) ?restq127x168
    case hyq127x168 => (intro w hSw; (try dsimp only at hSw); go_simp; first | done | with_reducible rfl)
    simp only [Act.put, List.setIfInBounds_toArray, List.set_cons_zero, List.set_cons_succ]
    refine wpAnyH_done (by kernel_rfl) ?_ _
    clear hHq1275
    have HBx := Lib.hid (below_on HB6.out hbq1275)
    have HBy := Lib.hid hbq1275
    clear hbq1275 hbq1274 hbq1273 hbq1272 hbq1271 hbq1270
    go_wp2_with fail
    go_ret
    exact ⟨rfl, HBx.out⟩
theorem puts_walk (es : Er → Addr) (w : World) (f : Fr) (A : Option Addr) (c : Nat) (hE : GEnv w es) (h18 : E18 w.heap.size w es) (hl : f.lens) (hf : f.fits) (hA : RdC (· < w.heap.size) w A (bvs f.bytes)) :
    Calls Tryd.prog 9 #[frV f A c] w (OkPost w) := by
  cases h : checkF f with
  | true => exact puts_yes es w f A c hE h18 hl hf hA h
  | false => exact puts_no es w f A c hE h18 hl hf hA h
end Go.Proofs.YtpekagkhgegefaaDoor
