/- Walk of the reference of layer 5: InForm (printed by gen_ri.py). -/
import Derived.Test.YtpekagkhgegefaaDoorRyb
import Derived.Test.YtpekagkhgegefaaDoorRx
import Derived.Deep.RegionHeld3
import Derived.RegionTactic
set_option linter.unusedVariables false
set_option linter.unusedSimpArgs false
set_option linter.unnecessarySimpa false
namespace Go.Proofs.YtpekagkhgegefaaDoor
open Go.RowKit

theorem FrC.conj {w : World} {g : Nat} {f : Fr} {A : Option Addr} {c : Nat} (h : FrC w g f A c) : w.cell? ⟨g, 0, none⟩ = some (.int .i64 f.kind) ∧ w.cell? ⟨g, 1, none⟩ = some (.int .i64 f.seq) ∧ w.cell? ⟨g, 2, none⟩ = some (.int .i64 f.got) ∧ w.cell? ⟨g, 3, none⟩ = some (.int .i64 f.stream) ∧ w.cell? ⟨g, 4, none⟩ = some (.int .i64 f.amount) ∧ w.cell? ⟨g, 5, none⟩ = some (.int .i64 f.code) ∧ w.cell? ⟨g, 6, none⟩ = some (.string f.who) ∧ w.cell? ⟨g, 7, none⟩ = some (.string f.name) ∧ w.cell? ⟨g, 8, none⟩ = some (.float .f64 f.weight) ∧ w.cell? ⟨g, 9, none⟩ = some (.slice A f.bytes.length c) := by
  obtain ⟨c0, c1, c2, c3, c4, c5, c6, c7, c8, c9⟩ := h
  exact ⟨c0, c1, c2, c3, c4, c5, c6, c7, c8, c9⟩
theorem check_same {f : Fr} (h : f = setAll (Fr.of f.kind) (shapeF f.kind) (cellsF f)) (hk : 1 ≤ f.kind ∧ f.kind ≤ 17) : checkF f = (shapeF f.kind).all (goodF f) := by
  have hs : (shapeF f.kind).isEmpty = false := by
    rcases kind_cases hk with h | h | h | h | h | h | h | h | h | h | h | h | h | h | h | h | h <;> rw [h] <;> rfl
  have ho : onlyF f (shapeF f.kind) = f := by
    have := setAll_cells f (shapeF f.kind) (Fr.of f.kind)
    unfold onlyF
    rw [← this]
    exact h.symm
  unfold checkF
  rw [hs, ho]
  simp
theorem check_diff {f : Fr} (h : f ≠ setAll (Fr.of f.kind) (shapeF f.kind) (cellsF f)) : checkF f = false := by
  have ho : onlyF f (shapeF f.kind) ≠ f := by
    have := setAll_cells f (shapeF f.kind) (Fr.of f.kind)
    unfold onlyF
    rw [← this]
    exact Ne.symm h
  unfold checkF
  rw [decide_eq_false ho]
  simp
theorem layout_out {k : Int} (h : ¬ (1 ≤ k ∧ k ≤ 17)) : layoutF k = [] := by
  unfold layoutF
  rw [shape_out h]
  rfl
theorem layout_in {k : Int} (h : 1 ≤ k ∧ k ≤ 17) : ((⟨(layoutF k).toArray⟩ : ByteArray).toList == []) = false := by
  rw [ByteArray.toList_eq]
  rcases kind_cases h with h | h | h | h | h | h | h | h | h | h | h | h | h | h | h | h | h <;> subst h <;> rfl
theorem ret_is {a b : Bool} (h : a = true ↔ b = true) : Ending.returned (.bool a) = .returned (.bool b) := by rw [Bool.eq_iff_iff.2 h]
end Go.Proofs.YtpekagkhgegefaaDoor
/- Words for the reference's InForm (printed by gen_ri.py). -/
set_option linter.unusedVariables false
set_option linter.unusedSimpArgs false
set_option linter.unnecessarySimpa false
namespace Go.Proofs.YtpekagkhgegefaaDoor
open Go.RowKit

set_option maxRecDepth 8000 in
set_option maxHeartbeats 8000000 in
theorem rinform_low (f : Fr) (A : Option Addr) (c : Nat) (w : World) (hl : f.lens) (hA : RdC (· < w.heap.size) w A (bvs f.bytes)) (hk0 : 1 ≤ f.kind ∧ f.kind ≤ 6) :
    Calls Tryd.prog 52 #[frV f A c] w (BoolP (checkF f) w) := by
  have hk : 1 ≤ f.kind ∧ f.kind ≤ 17 := by omega
  obtain ⟨w1, hw1, hb1, hs1, hf1⟩ := box_world w f A c
  have hce : Calls Tryd.prog 37 #[frV f A c] (w.alloc (Obj.cells (frCs f A c) 25)) (CellsP w1 (layoutF f.kind) (cellsF f)) := by
    rw [← hw1]; exact rcells_any f A c w1 (hA.step hb1)
  have HCe := Lib.hid hce
  have HB1 := Lib.hid hb1
  have HS1 := Lib.hid hs1
  have HF1 := Lib.hid hf1
  have HA := Lib.hid hA
  have HLn := Lib.hid hl
  obtain ⟨c0, c1, c2, c3, c4, c5, c6, c7, c8, c9⟩ := hf1
  have HK0 := Lib.hid hk0
  clear hw1 hb1 hce hA hl hs1 hk0
  unfold frV at HCe
  unfold frV
  go_enter Tryd.func52, Tryd.ntmps52
  go_wp2_with fail
  refine HCe.out.mono ?_
  rintro e w2 ⟨hb2, B, d, rfl, hd, hd3, hrd⟩
  have HB2 := Lib.hid (below_on HB1.out hb2)
  have HF2 := Lib.hid (HF1.out.on (by rw [HS1.out]; omega) hb2)
  have hz2 : w.heap.size + 1 ≤ w2.heap.size := by rw [← HS1.out]; exact hb2.size
  have HRd := Lib.hid hrd
  have HA2 := Lib.hid (HA.out.step HB2.out)
  clear hb2 hrd c0 c1 c2 c3 c4 c5 c6 c7 c8 c9 HCe
  obtain ⟨c0, c1, c2, c3, c4, c5, c6, c7, c8, c9⟩ := HF2.out
  have hly := layout_in hk
  have hcl : (cellsF f).length = (shapeF f.kind).length := by unfold cellsF; rw [List.length_map]
  have hkd : ∀ w3, Below w2.heap.size w2 w3 → Calls Tryd.prog 51 #[.int .i64 f.kind, .slice B (cellsF f).length d] w3 (KindP w3 (setAll (Fr.of f.kind) (shapeF f.kind) (cellsF f))) := fun w3 h3 =>
    rkind_any f.kind hk w3 B _ d (cellsF f) rfl hcl hd ((HRd.out.mono (fun b hb => hb.2)).step h3)
  have hdiff := fun h => check_diff (f := f) h
  have hsame := fun h => check_same (f := f) h hk
  obtain ⟨L, hL⟩ : ∃ L : ByteArray, L = ⟨(layoutF f.kind).toArray⟩ := ⟨_, rfl⟩
  rw [← hL] at hly ⊢
  clear hL
  generalize (cellsF f).length = n at *
  generalize setAll (Fr.of f.kind) (shapeF f.kind) (cellsF f) = g at *
  have hsa : ∀ (w3 : World) (G : Option Addr) (gc : Nat), Below w2.heap.size w2 w3 → RdC (· < w3.heap.size) w3 G (bvs g.bytes) → Calls Tryd.prog 33 #[frV f A c, frV g G gc] w3 (BoolP (decide (f = g)) w3) := fun w3 G gc h3 hG =>
    rsame_any f g A G c gc w3 (HA2.out.step h3) hG
  have HKd := Lib.hid hkd
  have HDf := Lib.hid hdiff
  have HSm := Lib.hid hsame
  obtain ⟨s, hs⟩ : ∃ s, s = decide (f = g) := ⟨_, rfl⟩
  rw [← hs] at hsa
  have HSa := Lib.hid hsa
  have HS := Lib.hid hs
  clear hkd hdiff hsame hsa hcl hd hd3 hs hk
  have hlt : w.heap.size < w2.heap.size := by omega
  go_wp2_with fail
  go_region_held3 (fun w' => w'.cell? ⟨w.heap.size, 0, none⟩ = some (.int .i64 f.kind) ∧ w'.cell? ⟨w.heap.size, 1, none⟩ = some (.int .i64 f.seq) ∧ w'.cell? ⟨w.heap.size, 2, none⟩ = some (.int .i64 f.got) ∧ w'.cell? ⟨w.heap.size, 3, none⟩ = some (.int .i64 f.stream) ∧ w'.cell? ⟨w.heap.size, 4, none⟩ = some (.int .i64 f.amount) ∧ w'.cell? ⟨w.heap.size, 5, none⟩ = some (.int .i64 f.code) ∧ w'.cell? ⟨w.heap.size, 6, none⟩ = some (.string f.who) ∧ w'.cell? ⟨w.heap.size, 7, none⟩ = some (.string f.name) ∧ w'.cell? ⟨w.heap.size, 8, none⟩ = some (.float .f64 f.weight) ∧ w'.cell? ⟨w.heap.size, 9, none⟩ = some (.slice A f.bytes.length c))
    (first | go_keep | exact FrC.conj (FrC.on HF2.out hlt ((Below.refl _ _).drew.trans h5)) | exact FrC.conj (FrC.on HF2.out hlt (((Below.refl _ _).drew.trans h5).trans (h6.mono ((Below.refl _ _).drew.trans h5).size))))
    (first
      | (go_at_call 51; refine (HKd.out _ (by exact (Below.refl _ _).drew)).mono ?_; rintro e w5 ⟨h5, G, gc, rfl, hG⟩)
      | (go_at_call 33; refine (HSa.out _ G gc (by exact (Below.refl _ _).drew.trans h5) (hG.mono (fun b hb => hb.2))).mono ?_; rintro e w6 ⟨rfl, h6⟩))
  have hb26 : Below w2.heap.size w2 w6 := ((Below.refl _ _).drew.trans h5).trans (h6.mono ((Below.refl _ _).drew.trans h5).size)
  have HB6 := Lib.hid (below_on HB2.out hb26)
  have HF6 := Lib.hid (HF2.out.on hlt hb26)
  clear h5 h6 hb26 hG c0 c1 c2 c3 c4 c5 c6 c7 c8 c9 hly hlt hz2 HKd HSa HRd HA2 HF2 HB2
  cases s with
  | false =>
    go_wp2_with fail
    go_ret
    exact ⟨by rw [HDf.out (of_decide_eq_false HS.out.symm)]; rfl, HB6.out⟩
  | true =>
    have hck := HSm.out (of_decide_eq_true HS.out.symm)
    obtain ⟨hl1, hl2, hl3⟩ := HLn.out
    obtain ⟨c0, c1, c2, c3, c4, c5, c6, c7, c8, c9⟩ := HF6.out
    clear HF6 HDf HSm HS
    have hks : f.kind = 1 ∨ f.kind = 2 ∨ f.kind = 3 ∨ f.kind = 4 ∨ f.kind = 5 ∨ f.kind = 6 := by have := HK0.out; omega
    rcases hks with h | h | h | h | h | h <;> rw [h] at hck
    · have hr : checkF f = true ↔ (1 ≤ (f.who.size : Int) ∧ (f.who.size : Int) ≤ 16) ∧ (0 ≤ f.got ∧ f.got ≤ 1099511627776) ∧ ((f.bytes.length : Int) ≤ 32) := by
        rw [hck]
        simp [shapeF, goodF, withinF, bytesF, h]
      have HR := Lib.hid hr
      clear hck hr
      go_wp2_with fail
      all_goals
        go_ret
        refine ⟨ret_is ?_, HB6.out⟩
        rw [HR.out]
        first | omega | (simp; done) | (simp; omega)
    · have hr : checkF f = true ↔ (1 ≤ (f.bytes.length : Int) ∧ (f.bytes.length : Int) ≤ 32) := by
        rw [hck]
        simp [shapeF, goodF, withinF, bytesF, h]
      have HR := Lib.hid hr
      clear hck hr
      go_wp2_with fail
      all_goals
        go_ret
        refine ⟨ret_is ?_, HB6.out⟩
        rw [HR.out]
        first | omega | (simp; done) | (simp; omega)
    · have hr : checkF f = true ↔ ((f.bytes.length : Int) = 32) := by
        rw [hck]
        simp [shapeF, goodF, withinF, bytesF, h]
      have HR := Lib.hid hr
      clear hck hr
      go_wp2_with fail
      all_goals
        go_ret
        refine ⟨ret_is ?_, HB6.out⟩
        rw [HR.out]
        first | omega | (simp; done) | (simp; omega)
    · have hr : checkF f = true ↔ (0 ≤ f.got ∧ f.got ≤ 1099511627776) ∧ (1 ≤ (f.bytes.length : Int) ∧ (f.bytes.length : Int) ≤ 32) := by
        rw [hck]
        simp [shapeF, goodF, withinF, bytesF, h]
      have HR := Lib.hid hr
      clear hck hr
      go_wp2_with fail
      all_goals
        go_ret
        refine ⟨ret_is ?_, HB6.out⟩
        rw [HR.out]
        first | omega | (simp; done) | (simp; omega)
    · have hr : checkF f = true ↔ (0 ≤ f.code ∧ f.code ≤ 13) := by
        rw [hck]
        simp [shapeF, goodF, withinF, bytesF, h]
      have HR := Lib.hid hr
      clear hck hr
      go_wp2_with fail
      all_goals
        go_ret
        refine ⟨ret_is ?_, HB6.out⟩
        rw [HR.out]
        first | omega | (simp; done) | (simp; omega)
    · have hr : checkF f = true ↔ (0 ≤ f.got ∧ f.got ≤ 1099511627776) := by
        rw [hck]
        simp [shapeF, goodF, withinF, bytesF, h]
      have HR := Lib.hid hr
      clear hck hr
      go_wp2_with fail
      all_goals
        go_ret
        refine ⟨ret_is ?_, HB6.out⟩
        rw [HR.out]
        first | omega | (simp; done) | (simp; omega)
set_option maxRecDepth 8000 in
set_option maxHeartbeats 8000000 in
theorem rinform_mid (f : Fr) (A : Option Addr) (c : Nat) (w : World) (hl : f.lens) (hA : RdC (· < w.heap.size) w A (bvs f.bytes)) (hk0 : 7 ≤ f.kind ∧ f.kind ≤ 12) :
    Calls Tryd.prog 52 #[frV f A c] w (BoolP (checkF f) w) := by
  have hk : 1 ≤ f.kind ∧ f.kind ≤ 17 := by omega
  obtain ⟨w1, hw1, hb1, hs1, hf1⟩ := box_world w f A c
  have hce : Calls Tryd.prog 37 #[frV f A c] (w.alloc (Obj.cells (frCs f A c) 25)) (CellsP w1 (layoutF f.kind) (cellsF f)) := by
    rw [← hw1]; exact rcells_any f A c w1 (hA.step hb1)
  have HCe := Lib.hid hce
  have HB1 := Lib.hid hb1
  have HS1 := Lib.hid hs1
  have HF1 := Lib.hid hf1
  have HA := Lib.hid hA
  have HLn := Lib.hid hl
  obtain ⟨c0, c1, c2, c3, c4, c5, c6, c7, c8, c9⟩ := hf1
  have HK0 := Lib.hid hk0
  clear hw1 hb1 hce hA hl hs1 hk0
  unfold frV at HCe
  unfold frV
  go_enter Tryd.func52, Tryd.ntmps52
  go_wp2_with fail
  refine HCe.out.mono ?_
  rintro e w2 ⟨hb2, B, d, rfl, hd, hd3, hrd⟩
  have HB2 := Lib.hid (below_on HB1.out hb2)
  have HF2 := Lib.hid (HF1.out.on (by rw [HS1.out]; omega) hb2)
  have hz2 : w.heap.size + 1 ≤ w2.heap.size := by rw [← HS1.out]; exact hb2.size
  have HRd := Lib.hid hrd
  have HA2 := Lib.hid (HA.out.step HB2.out)
  clear hb2 hrd c0 c1 c2 c3 c4 c5 c6 c7 c8 c9 HCe
  obtain ⟨c0, c1, c2, c3, c4, c5, c6, c7, c8, c9⟩ := HF2.out
  have hly := layout_in hk
  have hcl : (cellsF f).length = (shapeF f.kind).length := by unfold cellsF; rw [List.length_map]
  have hkd : ∀ w3, Below w2.heap.size w2 w3 → Calls Tryd.prog 51 #[.int .i64 f.kind, .slice B (cellsF f).length d] w3 (KindP w3 (setAll (Fr.of f.kind) (shapeF f.kind) (cellsF f))) := fun w3 h3 =>
    rkind_any f.kind hk w3 B _ d (cellsF f) rfl hcl hd ((HRd.out.mono (fun b hb => hb.2)).step h3)
  have hdiff := fun h => check_diff (f := f) h
  have hsame := fun h => check_same (f := f) h hk
  obtain ⟨L, hL⟩ : ∃ L : ByteArray, L = ⟨(layoutF f.kind).toArray⟩ := ⟨_, rfl⟩
  rw [← hL] at hly ⊢
  clear hL
  generalize (cellsF f).length = n at *
  generalize setAll (Fr.of f.kind) (shapeF f.kind) (cellsF f) = g at *
  have hsa : ∀ (w3 : World) (G : Option Addr) (gc : Nat), Below w2.heap.size w2 w3 → RdC (· < w3.heap.size) w3 G (bvs g.bytes) → Calls Tryd.prog 33 #[frV f A c, frV g G gc] w3 (BoolP (decide (f = g)) w3) := fun w3 G gc h3 hG =>
    rsame_any f g A G c gc w3 (HA2.out.step h3) hG
  have HKd := Lib.hid hkd
  have HDf := Lib.hid hdiff
  have HSm := Lib.hid hsame
  obtain ⟨s, hs⟩ : ∃ s, s = decide (f = g) := ⟨_, rfl⟩
  rw [← hs] at hsa
  have HSa := Lib.hid hsa
  have HS := Lib.hid hs
  clear hkd hdiff hsame hsa hcl hd hd3 hs hk
  have hlt : w.heap.size < w2.heap.size := by omega
  go_wp2_with fail
  go_region_held3 (fun w' => w'.cell? ⟨w.heap.size, 0, none⟩ = some (.int .i64 f.kind) ∧ w'.cell? ⟨w.heap.size, 1, none⟩ = some (.int .i64 f.seq) ∧ w'.cell? ⟨w.heap.size, 2, none⟩ = some (.int .i64 f.got) ∧ w'.cell? ⟨w.heap.size, 3, none⟩ = some (.int .i64 f.stream) ∧ w'.cell? ⟨w.heap.size, 4, none⟩ = some (.int .i64 f.amount) ∧ w'.cell? ⟨w.heap.size, 5, none⟩ = some (.int .i64 f.code) ∧ w'.cell? ⟨w.heap.size, 6, none⟩ = some (.string f.who) ∧ w'.cell? ⟨w.heap.size, 7, none⟩ = some (.string f.name) ∧ w'.cell? ⟨w.heap.size, 8, none⟩ = some (.float .f64 f.weight) ∧ w'.cell? ⟨w.heap.size, 9, none⟩ = some (.slice A f.bytes.length c))
    (first | go_keep | exact FrC.conj (FrC.on HF2.out hlt ((Below.refl _ _).drew.trans h5)) | exact FrC.conj (FrC.on HF2.out hlt (((Below.refl _ _).drew.trans h5).trans (h6.mono ((Below.refl _ _).drew.trans h5).size))))
    (first
      | (go_at_call 51; refine (HKd.out _ (by exact (Below.refl _ _).drew)).mono ?_; rintro e w5 ⟨h5, G, gc, rfl, hG⟩)
      | (go_at_call 33; refine (HSa.out _ G gc (by exact (Below.refl _ _).drew.trans h5) (hG.mono (fun b hb => hb.2))).mono ?_; rintro e w6 ⟨rfl, h6⟩))
  have hb26 : Below w2.heap.size w2 w6 := ((Below.refl _ _).drew.trans h5).trans (h6.mono ((Below.refl _ _).drew.trans h5).size)
  have HB6 := Lib.hid (below_on HB2.out hb26)
  have HF6 := Lib.hid (HF2.out.on hlt hb26)
  clear h5 h6 hb26 hG c0 c1 c2 c3 c4 c5 c6 c7 c8 c9 hly hlt hz2 HKd HSa HRd HA2 HF2 HB2
  cases s with
  | false =>
    go_wp2_with fail
    go_ret
    exact ⟨by rw [HDf.out (of_decide_eq_false HS.out.symm)]; rfl, HB6.out⟩
  | true =>
    have hck := HSm.out (of_decide_eq_true HS.out.symm)
    obtain ⟨hl1, hl2, hl3⟩ := HLn.out
    obtain ⟨c0, c1, c2, c3, c4, c5, c6, c7, c8, c9⟩ := HF6.out
    clear HF6 HDf HSm HS
    have hks : f.kind = 7 ∨ f.kind = 8 ∨ f.kind = 9 ∨ f.kind = 10 ∨ f.kind = 11 ∨ f.kind = 12 := by have := HK0.out; omega
    rcases hks with h | h | h | h | h | h <;> rw [h] at hck
    · have hr : checkF f = true ↔ (1 ≤ f.seq ∧ f.seq ≤ 1099511627776) ∧ (1 ≤ f.stream ∧ f.stream ≤ 2147483647) ∧ (1 ≤ (f.name.size : Int) ∧ (f.name.size : Int) ≤ 63) := by
        rw [hck]
        simp [shapeF, goodF, withinF, bytesF, h]
      have HR := Lib.hid hr
      clear hck hr
      go_wp2_with fail
      all_goals
        go_ret
        refine ⟨ret_is ?_, HB6.out⟩
        rw [HR.out]
        first | omega | (simp; done) | (simp; omega)
    · have hr : checkF f = true ↔ (1 ≤ f.seq ∧ f.seq ≤ 1099511627776) ∧ (1 ≤ f.stream ∧ f.stream ≤ 2147483647) := by
        rw [hck]
        simp [shapeF, goodF, withinF, bytesF, h]
      have HR := Lib.hid hr
      clear hck hr
      go_wp2_with fail
      all_goals
        go_ret
        refine ⟨ret_is ?_, HB6.out⟩
        rw [HR.out]
        first | omega | (simp; done) | (simp; omega)
    · have hr : checkF f = true ↔ (1 ≤ f.seq ∧ f.seq ≤ 1099511627776) ∧ (1 ≤ f.stream ∧ f.stream ≤ 2147483647) ∧ (1 ≤ (f.bytes.length : Int) ∧ (f.bytes.length : Int) ≤ 512) := by
        rw [hck]
        simp [shapeF, goodF, withinF, bytesF, h]
      have HR := Lib.hid hr
      clear hck hr
      go_wp2_with fail
      all_goals
        go_ret
        refine ⟨ret_is ?_, HB6.out⟩
        rw [HR.out]
        first | omega | (simp; done) | (simp; omega)
    · have hr : checkF f = true ↔ (1 ≤ f.seq ∧ f.seq ≤ 1099511627776) ∧ (1 ≤ f.stream ∧ f.stream ≤ 2147483647) ∧ (1 ≤ f.amount ∧ f.amount ≤ 2147483647) := by
        rw [hck]
        simp [shapeF, goodF, withinF, bytesF, h]
      have HR := Lib.hid hr
      clear hck hr
      go_wp2_with fail
      all_goals
        go_ret
        refine ⟨ret_is ?_, HB6.out⟩
        rw [HR.out]
        first | omega | (simp; done) | (simp; omega)
    · have hr : checkF f = true ↔ (1 ≤ f.seq ∧ f.seq ≤ 1099511627776) ∧ (1 ≤ f.stream ∧ f.stream ≤ 2147483647) := by
        rw [hck]
        simp [shapeF, goodF, withinF, bytesF, h]
      have HR := Lib.hid hr
      clear hck hr
      go_wp2_with fail
      all_goals
        go_ret
        refine ⟨ret_is ?_, HB6.out⟩
        rw [HR.out]
        first | omega | (simp; done) | (simp; omega)
    · have hr : checkF f = true ↔ (1 ≤ f.seq ∧ f.seq ≤ 1099511627776) ∧ (1 ≤ f.stream ∧ f.stream ≤ 2147483647) ∧ (0 ≤ f.code ∧ f.code ≤ 13) := by
        rw [hck]
        simp [shapeF, goodF, withinF, bytesF, h]
      have HR := Lib.hid hr
      clear hck hr
      go_wp2_with fail
      all_goals
        go_ret
        refine ⟨ret_is ?_, HB6.out⟩
        rw [HR.out]
        first | omega | (simp; done) | (simp; omega)
set_option maxRecDepth 8000 in
set_option maxHeartbeats 8000000 in
theorem rinform_high (f : Fr) (A : Option Addr) (c : Nat) (w : World) (hl : f.lens) (hA : RdC (· < w.heap.size) w A (bvs f.bytes)) (hk0 : 13 ≤ f.kind ∧ f.kind ≤ 17) :
    Calls Tryd.prog 52 #[frV f A c] w (BoolP (checkF f) w) := by
  have hk : 1 ≤ f.kind ∧ f.kind ≤ 17 := by omega
  obtain ⟨w1, hw1, hb1, hs1, hf1⟩ := box_world w f A c
  have hce : Calls Tryd.prog 37 #[frV f A c] (w.alloc (Obj.cells (frCs f A c) 25)) (CellsP w1 (layoutF f.kind) (cellsF f)) := by
    rw [← hw1]; exact rcells_any f A c w1 (hA.step hb1)
  have HCe := Lib.hid hce
  have HB1 := Lib.hid hb1
  have HS1 := Lib.hid hs1
  have HF1 := Lib.hid hf1
  have HA := Lib.hid hA
  have HLn := Lib.hid hl
  obtain ⟨c0, c1, c2, c3, c4, c5, c6, c7, c8, c9⟩ := hf1
  have HK0 := Lib.hid hk0
  clear hw1 hb1 hce hA hl hs1 hk0
  unfold frV at HCe
  unfold frV
  go_enter Tryd.func52, Tryd.ntmps52
  go_wp2_with fail
  refine HCe.out.mono ?_
  rintro e w2 ⟨hb2, B, d, rfl, hd, hd3, hrd⟩
  have HB2 := Lib.hid (below_on HB1.out hb2)
  have HF2 := Lib.hid (HF1.out.on (by rw [HS1.out]; omega) hb2)
  have hz2 : w.heap.size + 1 ≤ w2.heap.size := by rw [← HS1.out]; exact hb2.size
  have HRd := Lib.hid hrd
  have HA2 := Lib.hid (HA.out.step HB2.out)
  clear hb2 hrd c0 c1 c2 c3 c4 c5 c6 c7 c8 c9 HCe
  obtain ⟨c0, c1, c2, c3, c4, c5, c6, c7, c8, c9⟩ := HF2.out
  have hly := layout_in hk
  have hcl : (cellsF f).length = (shapeF f.kind).length := by unfold cellsF; rw [List.length_map]
  have hkd : ∀ w3, Below w2.heap.size w2 w3 → Calls Tryd.prog 51 #[.int .i64 f.kind, .slice B (cellsF f).length d] w3 (KindP w3 (setAll (Fr.of f.kind) (shapeF f.kind) (cellsF f))) := fun w3 h3 =>
    rkind_any f.kind hk w3 B _ d (cellsF f) rfl hcl hd ((HRd.out.mono (fun b hb => hb.2)).step h3)
  have hdiff := fun h => check_diff (f := f) h
  have hsame := fun h => check_same (f := f) h hk
  obtain ⟨L, hL⟩ : ∃ L : ByteArray, L = ⟨(layoutF f.kind).toArray⟩ := ⟨_, rfl⟩
  rw [← hL] at hly ⊢
  clear hL
  generalize (cellsF f).length = n at *
  generalize setAll (Fr.of f.kind) (shapeF f.kind) (cellsF f) = g at *
  have hsa : ∀ (w3 : World) (G : Option Addr) (gc : Nat), Below w2.heap.size w2 w3 → RdC (· < w3.heap.size) w3 G (bvs g.bytes) → Calls Tryd.prog 33 #[frV f A c, frV g G gc] w3 (BoolP (decide (f = g)) w3) := fun w3 G gc h3 hG =>
    rsame_any f g A G c gc w3 (HA2.out.step h3) hG
  have HKd := Lib.hid hkd
  have HDf := Lib.hid hdiff
  have HSm := Lib.hid hsame
  obtain ⟨s, hs⟩ : ∃ s, s = decide (f = g) := ⟨_, rfl⟩
  rw [← hs] at hsa
  have HSa := Lib.hid hsa
  have HS := Lib.hid hs
  clear hkd hdiff hsame hsa hcl hd hd3 hs hk
  have hlt : w.heap.size < w2.heap.size := by omega
  go_wp2_with fail
  go_region_held3 (fun w' => w'.cell? ⟨w.heap.size, 0, none⟩ = some (.int .i64 f.kind) ∧ w'.cell? ⟨w.heap.size, 1, none⟩ = some (.int .i64 f.seq) ∧ w'.cell? ⟨w.heap.size, 2, none⟩ = some (.int .i64 f.got) ∧ w'.cell? ⟨w.heap.size, 3, none⟩ = some (.int .i64 f.stream) ∧ w'.cell? ⟨w.heap.size, 4, none⟩ = some (.int .i64 f.amount) ∧ w'.cell? ⟨w.heap.size, 5, none⟩ = some (.int .i64 f.code) ∧ w'.cell? ⟨w.heap.size, 6, none⟩ = some (.string f.who) ∧ w'.cell? ⟨w.heap.size, 7, none⟩ = some (.string f.name) ∧ w'.cell? ⟨w.heap.size, 8, none⟩ = some (.float .f64 f.weight) ∧ w'.cell? ⟨w.heap.size, 9, none⟩ = some (.slice A f.bytes.length c))
    (first | go_keep | exact FrC.conj (FrC.on HF2.out hlt ((Below.refl _ _).drew.trans h5)) | exact FrC.conj (FrC.on HF2.out hlt (((Below.refl _ _).drew.trans h5).trans (h6.mono ((Below.refl _ _).drew.trans h5).size))))
    (first
      | (go_at_call 51; refine (HKd.out _ (by exact (Below.refl _ _).drew)).mono ?_; rintro e w5 ⟨h5, G, gc, rfl, hG⟩)
      | (go_at_call 33; refine (HSa.out _ G gc (by exact (Below.refl _ _).drew.trans h5) (hG.mono (fun b hb => hb.2))).mono ?_; rintro e w6 ⟨rfl, h6⟩))
  have hb26 : Below w2.heap.size w2 w6 := ((Below.refl _ _).drew.trans h5).trans (h6.mono ((Below.refl _ _).drew.trans h5).size)
  have HB6 := Lib.hid (below_on HB2.out hb26)
  have HF6 := Lib.hid (HF2.out.on hlt hb26)
  clear h5 h6 hb26 hG c0 c1 c2 c3 c4 c5 c6 c7 c8 c9 hly hlt hz2 HKd HSa HRd HA2 HF2 HB2
  cases s with
  | false =>
    go_wp2_with fail
    go_ret
    exact ⟨by rw [HDf.out (of_decide_eq_false HS.out.symm)]; rfl, HB6.out⟩
  | true =>
    have hck := HSm.out (of_decide_eq_true HS.out.symm)
    obtain ⟨hl1, hl2, hl3⟩ := HLn.out
    obtain ⟨c0, c1, c2, c3, c4, c5, c6, c7, c8, c9⟩ := HF6.out
    clear HF6 HDf HSm HS
    have hks : f.kind = 13 ∨ f.kind = 14 ∨ f.kind = 15 ∨ f.kind = 16 ∨ f.kind = 17 := by have := HK0.out; omega
    rcases hks with h | h | h | h | h <;> rw [h] at hck
    · have hr : checkF f = true ↔ (1 ≤ f.seq ∧ f.seq ≤ 1099511627776) ∧ (1 ≤ (f.name.size : Int) ∧ (f.name.size : Int) ≤ 63) := by
        rw [hck]
        simp [shapeF, goodF, withinF, bytesF, h]
      have HR := Lib.hid hr
      clear hck hr
      go_wp2_with fail
      all_goals
        go_ret
        refine ⟨ret_is ?_, HB6.out⟩
        rw [HR.out]
        first | omega | (simp; done) | (simp; omega)
    · have hr : checkF f = true ↔ (1 ≤ f.seq ∧ f.seq ≤ 1099511627776) ∧ (1 ≤ (f.name.size : Int) ∧ (f.name.size : Int) ≤ 63) := by
        rw [hck]
        simp [shapeF, goodF, withinF, bytesF, h]
      have HR := Lib.hid hr
      clear hck hr
      go_wp2_with fail
      all_goals
        go_ret
        refine ⟨ret_is ?_, HB6.out⟩
        rw [HR.out]
        first | omega | (simp; done) | (simp; omega)
    · have hr : checkF f = true ↔ (1 ≤ f.seq ∧ f.seq ≤ 1099511627776) ∧ (1 ≤ (f.who.size : Int) ∧ (f.who.size : Int) ≤ 16) ∧ (1 ≤ (f.name.size : Int) ∧ (f.name.size : Int) ≤ 63) := by
        rw [hck]
        simp [shapeF, goodF, withinF, bytesF, h]
      have HR := Lib.hid hr
      clear hck hr
      go_wp2_with fail
      all_goals
        go_ret
        refine ⟨ret_is ?_, HB6.out⟩
        rw [HR.out]
        first | omega | (simp; done) | (simp; omega)
    · have hr : checkF f = true ↔ (1 ≤ f.seq ∧ f.seq ≤ 1099511627776) ∧ (1 ≤ (f.who.size : Int) ∧ (f.who.size : Int) ≤ 16) ∧ (1 ≤ (f.name.size : Int) ∧ (f.name.size : Int) ≤ 63) := by
        rw [hck]
        simp [shapeF, goodF, withinF, bytesF, h]
      have HR := Lib.hid hr
      clear hck hr
      go_wp2_with fail
      all_goals
        go_ret
        refine ⟨ret_is ?_, HB6.out⟩
        rw [HR.out]
        first | omega | (simp; done) | (simp; omega)
    · have hr : checkF f = true ↔ (1 ≤ f.seq ∧ f.seq ≤ 1099511627776) ∧ (0 ≤ f.code ∧ f.code ≤ 13) ∧ (1 ≤ (f.name.size : Int) ∧ (f.name.size : Int) ≤ 63) := by
        rw [hck]
        simp [shapeF, goodF, withinF, bytesF, h]
      have HR := Lib.hid hr
      clear hck hr
      go_wp2_with fail
      all_goals
        go_ret
        refine ⟨ret_is ?_, HB6.out⟩
        rw [HR.out]
        first | omega | (simp; done) | (simp; omega)
set_option maxRecDepth 8000 in
set_option maxHeartbeats 1600000 in
theorem rinform_out (f : Fr) (A : Option Addr) (c : Nat) (w : World) (hA : RdC (· < w.heap.size) w A (bvs f.bytes)) (hk : ¬ (1 ≤ f.kind ∧ f.kind ≤ 17)) :
    Calls Tryd.prog 52 #[frV f A c] w (BoolP (checkF f) w) := by
  obtain ⟨w1, hw1, hb1, hs1, hf1⟩ := box_world w f A c
  have hce : Calls Tryd.prog 37 #[frV f A c] (w.alloc (Obj.cells (frCs f A c) 25)) (CellsP w1 (layoutF f.kind) (cellsF f)) := by
    rw [← hw1]; exact rcells_any f A c w1 (hA.step hb1)
  rw [layout_out hk] at hce
  have hck : checkF f = false := by unfold checkF; rw [shape_out hk]; rfl
  have HCe := Lib.hid hce
  have HB1 := Lib.hid hb1
  have HCk := Lib.hid hck
  obtain ⟨c0, c1, c2, c3, c4, c5, c6, c7, c8, c9⟩ := hf1
  clear hw1 hb1 hce hA hs1 hck hk
  unfold frV at HCe
  unfold frV
  go_enter Tryd.func52, Tryd.ntmps52
  go_wp2_with fail
  refine HCe.out.mono ?_
  rintro e w2 ⟨hb2, B, d, rfl, hd, hd3, hrd⟩
  have HB2 := Lib.hid (below_on HB1.out hb2)
  have hn0 : ((⟨([] : Bs).toArray⟩ : ByteArray).toList == []) = true := by rw [ByteArray.toList_eq]; rfl
  clear hb2 hrd HCe c0 c1 c2 c3 c4 c5 c6 c7 c8 c9 hd hd3
  go_wp2_with fail
  go_quiet (fail)
  go_wp2_with fail
  go_ret
  exact ⟨by rw [HCk.out]; rfl, below_drewN HB2.out _⟩
/-- InForm of every frame. -/
theorem rinform_any (f : Fr) (A : Option Addr) (c : Nat) (w : World) (hl : f.lens) (hA : RdC (· < w.heap.size) w A (bvs f.bytes)) :
    Calls Tryd.prog 52 #[frV f A c] w (BoolP (checkF f) w) := by
  by_cases h1 : 1 ≤ f.kind ∧ f.kind ≤ 6
  · exact rinform_low f A c w hl hA h1
  · by_cases h2 : 7 ≤ f.kind ∧ f.kind ≤ 12
    · exact rinform_mid f A c w hl hA h2
    · by_cases h3 : 13 ≤ f.kind ∧ f.kind ≤ 17
      · exact rinform_high f A c w hl hA h3
      · exact rinform_out f A c w hA (by omega)
end Go.Proofs.YtpekagkhgegefaaDoor
