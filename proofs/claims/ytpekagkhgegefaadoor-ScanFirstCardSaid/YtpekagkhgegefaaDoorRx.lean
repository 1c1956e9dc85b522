/- Walk of the reference of layer 5: Cells. -/
import Derived.Test.YtpekagkhgegefaaDoorVo
import Derived.Test.YtpekagkhgegefaaDoorMb
import Derived.Test.YtpekagkhgegefaaDoorVb
import Derived.RegionTactic
import Derived.Deep.CutRange
set_option linter.unusedVariables false
set_option linter.unusedSimpArgs false
set_option linter.unnecessarySimpa false
namespace Go.Proofs.YtpekagkhgegefaaDoor
open Go.RowKit

/-- A cell's box. -/
def CellAt (W : World) (p : Nat) (c : Cell) : Prop := p < W.heap.size ∧ W.cell? ⟨p, 0, none⟩ = some (.int .i64 c.n) ∧ W.cell? ⟨p, 1, none⟩ = some (.int .u64 c.f) ∧ W.cell? ⟨p, 2, none⟩ = some (.string c.s)
theorem CellAt.on {w w' : World} {p : Nat} {c : Cell} (h : CellAt w p c) (hb : Below w.heap.size w w') : CellAt w' p c := by
  have key : ∀ j, w'.cell? ⟨p, j, none⟩ = w.cell? ⟨p, j, none⟩ := fun j => World.cell?_of_block (hb.block p h.1)
  exact ⟨Nat.lt_of_lt_of_le h.1 hb.size, by rw [key]; exact h.2.1, by rw [key]; exact h.2.2.1, by rw [key]; exact h.2.2.2⟩
theorem CellAt.new (w : World) (c : Cell) (T : TypeId) : CellAt (w.alloc (.cells #[.int .i64 c.n, .int .u64 c.f, .string c.s] T)) w.heap.size c := by
  have key : ∀ j, (w.alloc (.cells #[.int .i64 c.n, .int .u64 c.f, .string c.s] T)).cell? ⟨w.heap.size, j, none⟩ = (#[.int .i64 c.n, .int .u64 c.f, .string c.s] : Array Value)[j]? := fun j => cell_of_row _ _ _ _ _ _ (heap_alloc_new _ _)
  exact ⟨by simp, by rw [key]; rfl, by rw [key]; rfl, by rw [key]; rfl⟩
theorem cells_two (w : World) (P : Nat) (hP : w.heap.size = P) (a b : Cell) (T : TypeId) :
    CellAt ((w.alloc (.cells #[.int .i64 a.n, .int .u64 a.f, .string a.s] T)).alloc (.cells #[.int .i64 b.n, .int .u64 b.f, .string b.s] T)).drew P a ∧
    CellAt ((w.alloc (.cells #[.int .i64 a.n, .int .u64 a.f, .string a.s] T)).alloc (.cells #[.int .i64 b.n, .int .u64 b.f, .string b.s] T)).drew (P + 1) b ∧
    Below w.heap.size w ((w.alloc (.cells #[.int .i64 a.n, .int .u64 a.f, .string a.s] T)).alloc (.cells #[.int .i64 b.n, .int .u64 b.f, .string b.s] T)).drew := by
  subst hP
  have h1 := CellAt.new w a T
  have h2 := CellAt.new (w.alloc (.cells #[.int .i64 a.n, .int .u64 a.f, .string a.s] T)) b T
  have hb := below_box w (.cells #[.int .i64 a.n, .int .u64 a.f, .string a.s] T)
  have hb2 := below_box (w.alloc (.cells #[.int .i64 a.n, .int .u64 a.f, .string a.s] T)) (.cells #[.int .i64 b.n, .int .u64 b.f, .string b.s] T)
  rw [show (w.alloc (.cells #[.int .i64 a.n, .int .u64 a.f, .string a.s] T)).heap.size = w.heap.size + 1 by simp] at h2
  exact ⟨h1.on hb2.drew, h2.on (Below.refl _ _).drew, (hb.trans (hb2.mono hb.size)).drew⟩
theorem cells_three (w : World) (P : Nat) (hP : w.heap.size = P) (a b c : Cell) (T : TypeId) :
    CellAt (((w.alloc (.cells #[.int .i64 a.n, .int .u64 a.f, .string a.s] T)).alloc (.cells #[.int .i64 b.n, .int .u64 b.f, .string b.s] T)).alloc (.cells #[.int .i64 c.n, .int .u64 c.f, .string c.s] T)).drew P a ∧
    CellAt (((w.alloc (.cells #[.int .i64 a.n, .int .u64 a.f, .string a.s] T)).alloc (.cells #[.int .i64 b.n, .int .u64 b.f, .string b.s] T)).alloc (.cells #[.int .i64 c.n, .int .u64 c.f, .string c.s] T)).drew (P + 1) b ∧
    CellAt (((w.alloc (.cells #[.int .i64 a.n, .int .u64 a.f, .string a.s] T)).alloc (.cells #[.int .i64 b.n, .int .u64 b.f, .string b.s] T)).alloc (.cells #[.int .i64 c.n, .int .u64 c.f, .string c.s] T)).drew (P + 1 + 1) c ∧
    Below w.heap.size w (((w.alloc (.cells #[.int .i64 a.n, .int .u64 a.f, .string a.s] T)).alloc (.cells #[.int .i64 b.n, .int .u64 b.f, .string b.s] T)).alloc (.cells #[.int .i64 c.n, .int .u64 c.f, .string c.s] T)).drew := by
  obtain ⟨h1, h2, h3⟩ := cells_two w P hP a b T
  have h1' : CellAt ((w.alloc (.cells #[.int .i64 a.n, .int .u64 a.f, .string a.s] T)).alloc (.cells #[.int .i64 b.n, .int .u64 b.f, .string b.s] T)) P a := ⟨h1.1, h1.2.1, h1.2.2.1, h1.2.2.2⟩
  have h2' : CellAt ((w.alloc (.cells #[.int .i64 a.n, .int .u64 a.f, .string a.s] T)).alloc (.cells #[.int .i64 b.n, .int .u64 b.f, .string b.s] T)) (P + 1) b := ⟨h2.1, h2.2.1, h2.2.2.1, h2.2.2.2⟩
  have h3' : Below w.heap.size w ((w.alloc (.cells #[.int .i64 a.n, .int .u64 a.f, .string a.s] T)).alloc (.cells #[.int .i64 b.n, .int .u64 b.f, .string b.s] T)) := ⟨h3.os, h3.tape, h3.output, h3.size, h3.block⟩
  have hb := below_box ((w.alloc (.cells #[.int .i64 a.n, .int .u64 a.f, .string a.s] T)).alloc (.cells #[.int .i64 b.n, .int .u64 b.f, .string b.s] T)) (.cells #[.int .i64 c.n, .int .u64 c.f, .string c.s] T)
  have h4 := CellAt.new ((w.alloc (.cells #[.int .i64 a.n, .int .u64 a.f, .string a.s] T)).alloc (.cells #[.int .i64 b.n, .int .u64 b.f, .string b.s] T)) c T
  rw [show ((w.alloc (.cells #[.int .i64 a.n, .int .u64 a.f, .string a.s] T)).alloc (.cells #[.int .i64 b.n, .int .u64 b.f, .string b.s] T)).heap.size = P + 1 + 1 by simp [hP]] at h4
  exact ⟨h1'.on hb.drew, h2'.on hb.drew, h4.on (Below.refl _ _).drew, (h3'.trans (hb.mono h3'.size)).drew⟩
/-- The row of cells, fresh. -/
def CellsP (w : World) (s : Bs) (cs : List Cell) (e : Ending) (w' : World) : Prop :=
  Below w.heap.size w w' ∧ ∃ (A : Option Addr) (c : Nat), e = .returned (.tuple #[.string ⟨s.toArray⟩, .slice A cs.length c]) ∧ cs.length ≤ c ∧ c ≤ 3 ∧ RdC (fun b => w.heap.size ≤ b ∧ b < w'.heap.size) w' A (cs.flatMap rcellVs)

theorem cells_post {w w4 W : World} (s : Bs) (cs : List Cell) (T : TypeId) (hb : Below w.heap.size w w4) (hW : W = (w4.alloc (.cells (cs.flatMap rcellVs).toArray T)).drew) (hc : cs.length ≤ 3) (h0 : cs ≠ []) :
    CellsP w s cs (.returned (.tuple #[.string ⟨s.toArray⟩, .slice (some ⟨w4.heap.size, 0, none⟩) cs.length cs.length])) W := by
  subst hW
  have hbb := below_box w4 (.cells (cs.flatMap rcellVs).toArray T)
  refine ⟨(hb.trans (hbb.mono hb.size)).drew, _, _, rfl, Nat.le_refl _, hc, ?_⟩
  have h := (RdC.new w4 (cs.flatMap rcellVs).toArray T).mono (ok' := fun b => w.heap.size ≤ b ∧ b < (w4.alloc (.cells (cs.flatMap rcellVs).toArray T)).heap.size) (fun b hb' => by subst hb'; exact ⟨hb.size, by simp⟩)
  simp only [] at h
  exact h
set_option maxRecDepth 8000 in
set_option maxHeartbeats 4000000 in
theorem rcells_any (f : Fr) (A : Option Addr) (c : Nat) (w : World) (hA : RdC (· < w.heap.size) w A (bvs f.bytes)) :
    Calls Tryd.prog 37 #[frV f A c] w (CellsP w (layoutF f.kind) (cellsF f)) := by
  obtain ⟨w1, hw1⟩ : ∃ W, W = w.alloc (Obj.cells (frCs f A c) 25) := ⟨_, rfl⟩
  have hb1 : Below w.heap.size w w1 := by rw [hw1]; exact below_box _ _
  have hs1 : w1.heap.size = w.heap.size + 1 := by rw [hw1]; simp
  have hf1 : FrC w1 w.heap.size f A c := by rw [hw1]; exact FrC.box w f A c _
  have HB1 := Lib.hid hb1
  have HS1 := Lib.hid hs1
  have HF1 := Lib.hid hf1
  have HW1 := Lib.hid hw1
  obtain ⟨c0, c1, c2, c3, c4, c5, c6, c7, c8, c9⟩ := hf1
  unfold frV
  clear hb1 hs1
  go_enter Tryd.func37, Tryd.ntmps37
  go_upto_region 1 with fail
  go_cut [4, 5] from 11 to 16 (fun p q wx => ∃ P Q : Nat, p = .pointer (some ⟨P, 0, none⟩) ∧ q = .pointer (some ⟨Q, 0, none⟩) ∧ CellAt wx P ⟨f.seq, 0, noS⟩ ∧ CellAt wx Q ⟨f.stream, 0, noS⟩ ∧ Below w1.heap.size w1 wx)
  case first =>
    go_region
    all_goals
      go_wp2_with fail
      go_meet
      clear c0 c1 c2 c3 c4 c5 c6 c7 c8 c9
      subst hw1
      obtain ⟨e1, e2, e3⟩ := cells_two (w.alloc (Obj.cells (frCs f A c) 25)) (w.heap.size + 1) (by simp) ⟨f.seq, 0, noS⟩ ⟨f.stream, 0, noS⟩ 112
      obtain ⟨f1, f2, f3⟩ := cells_two (w.alloc (Obj.cells (frCs f A c) 25)) (w.heap.size + 1) (by simp) ⟨f.stream, 0, noS⟩ ⟨f.seq, 0, noS⟩ 112
      first
      | exact ⟨_, _, rfl, rfl, e1, e2, e3⟩
      | exact ⟨_, _, rfl, rfl, f2, f1, f3⟩
  case rest =>
  obtain ⟨P4, P5, rfl, rfl, h4, h5, hb2⟩ := hcut
  obtain ⟨w2, rfl⟩ : ∃ x, x = wc := ⟨_, rfl⟩
  have H4 := Lib.hid h4
  have H5 := Lib.hid h5
  have HB2 := Lib.hid hb2
  have hlt2 : w.heap.size < w1.heap.size := by rw [HS1.out]; omega
  have hf2 := HF1.out.on hlt2 hb2
  have HF2 := Lib.hid hf2
  have hz2 : w.heap.size < w2.heap.size := by have := hb2.size; omega
  clear h4 h5 hb2 c0 c1 c2 c3 c4 c5 c6 c7 c8 c9
  obtain ⟨c0, c1, c2, c3, c4, c5, c6, c7, c8, c9⟩ := hf2
  go_upto_region 2 with fail
  go_cut [6, 7] from 17 to 22 (fun p q wx => ∃ P Q : Nat, p = .pointer (some ⟨P, 0, none⟩) ∧ q = .pointer (some ⟨Q, 0, none⟩) ∧ CellAt wx P ⟨f.got, 0, noS⟩ ∧ CellAt wx Q ⟨f.code, 0, noS⟩ ∧ Below w2.heap.size w2 wx)
  case first =>
    go_region
    all_goals
      go_wp2_with fail
      go_meet
      clear c0 c1 c2 c3 c4 c5 c6 c7 c8 c9
      obtain ⟨e1, e2, e3⟩ := cells_two w2 w2.heap.size rfl ⟨f.got, 0, noS⟩ ⟨f.code, 0, noS⟩ 112
      obtain ⟨f1, f2, f3⟩ := cells_two w2 w2.heap.size rfl ⟨f.code, 0, noS⟩ ⟨f.got, 0, noS⟩ 112
      first
      | exact ⟨_, _, rfl, rfl, e1, e2, e3⟩
      | exact ⟨_, _, rfl, rfl, f2, f1, f3⟩
  case rest =>
  obtain ⟨P6, P7, rfl, rfl, h6, h7, hb3⟩ := hcut
  obtain ⟨w3, rfl⟩ : ∃ x, x = wc := ⟨_, rfl⟩
  have H4' := Lib.hid (H4.out.on hb3)
  have H5' := Lib.hid (H5.out.on hb3)
  have H6 := Lib.hid h6
  have H7 := Lib.hid h7
  have hf3 := HF2.out.on hz2 hb3
  have hz3 : w.heap.size < w3.heap.size := by have := hb3.size; omega
  have HB3 := Lib.hid (HB2.out.trans (hb3.mono HB2.out.size))
  have HF3 := Lib.hid hf3
  clear h6 h7 hb3 c0 c1 c2 c3 c4 c5 c6 c7 c8 c9 H4 H5 HF2
  obtain ⟨c0, c1, c2, c3, c4, c5, c6, c7, c8, c9⟩ := hf3
  have hcv : ∀ W, Below w3.heap.size w3 W → (convert 23 9 (.slice A f.bytes.length c)).run Tryd.prog W = .ok (.string ⟨f.bytes.toArray⟩) W := fun W hW =>
    run_str_of Tryd.underlying23 Tryd.underlying5 Tryd.underlying9 rfl ((hA.step HB1.out).step HB3.out |>.step hW)
  have k0 : ∀ (X : Obj), (convert 23 9 (.slice A f.bytes.length c)).run Tryd.prog (w3.alloc X).drew = .ok (.string ⟨f.bytes.toArray⟩) (w3.alloc X).drew := fun X => hcv _ (below_box _ _).drew
  have k1 : ∀ (X Y : Obj), (convert 23 9 (.slice A f.bytes.length c)).run Tryd.prog ((w3.alloc X).alloc Y).drew = .ok (.string ⟨f.bytes.toArray⟩) ((w3.alloc X).alloc Y).drew := fun X Y => hcv _ ((below_box _ X).trans ((below_box _ Y).mono (below_box _ X).size)).drew
  have k2 : ∀ (X Y Z : Obj), (convert 23 9 (.slice A f.bytes.length c)).run Tryd.prog (((w3.alloc X).alloc Y).alloc Z).drew = .ok (.string ⟨f.bytes.toArray⟩) (((w3.alloc X).alloc Y).alloc Z).drew := fun X Y Z => hcv _ (((below_box _ X).trans ((below_box _ Y).mono (below_box _ X).size)).trans ((below_box _ Z).mono ((below_box _ X).trans ((below_box _ Y).mono (below_box _ X).size)).size)).drew
  have k3 := hcv w3.drew (Below.refl _ _).drew
  clear hcv
  have hz4 : w.heap.size < w3.heap.size + 1 := by omega
  have hz5 : w.heap.size < w3.heap.size + 1 + 1 := by omega
  go_upto_region 3 with fail
  go_cut [8, 9, 10] from 23 to 32 (fun p q r wx => ∃ P Q R : Nat, p = .pointer (some ⟨P, 0, none⟩) ∧ q = .pointer (some ⟨Q, 0, none⟩) ∧ r = .pointer (some ⟨R, 0, none⟩) ∧ CellAt wx P ⟨0, 0, f.who⟩ ∧ CellAt wx Q ⟨0, 0, f.name⟩ ∧ CellAt wx R ⟨0, 0, ⟨f.bytes.toArray⟩⟩ ∧ Below w3.heap.size w3 wx)
  case first =>
    go_region
    all_goals
      go_wp2_with fail
      go_meet
      clear c0 c1 c2 c3 c4 c5 c6 c7 c8 c9
      first
      | (obtain ⟨e1, e2, e3, e4⟩ := cells_three w3 w3.heap.size rfl ⟨0, 0, f.who⟩ ⟨0, 0, f.name⟩ ⟨0, 0, ⟨f.bytes.toArray⟩⟩ 112; exact ⟨_, _, _, rfl, rfl, rfl, e1, e2, e3, e4⟩)
      | (obtain ⟨e1, e2, e3, e4⟩ := cells_three w3 w3.heap.size rfl ⟨0, 0, f.who⟩ ⟨0, 0, ⟨f.bytes.toArray⟩⟩ ⟨0, 0, f.name⟩ 112; exact ⟨_, _, _, rfl, rfl, rfl, e1, e3, e2, e4⟩)
      | (obtain ⟨e1, e2, e3, e4⟩ := cells_three w3 w3.heap.size rfl ⟨0, 0, f.name⟩ ⟨0, 0, f.who⟩ ⟨0, 0, ⟨f.bytes.toArray⟩⟩ 112; exact ⟨_, _, _, rfl, rfl, rfl, e2, e1, e3, e4⟩)
      | (obtain ⟨e1, e2, e3, e4⟩ := cells_three w3 w3.heap.size rfl ⟨0, 0, f.name⟩ ⟨0, 0, ⟨f.bytes.toArray⟩⟩ ⟨0, 0, f.who⟩ 112; exact ⟨_, _, _, rfl, rfl, rfl, e3, e1, e2, e4⟩)
      | (obtain ⟨e1, e2, e3, e4⟩ := cells_three w3 w3.heap.size rfl ⟨0, 0, ⟨f.bytes.toArray⟩⟩ ⟨0, 0, f.who⟩ ⟨0, 0, f.name⟩ 112; exact ⟨_, _, _, rfl, rfl, rfl, e2, e3, e1, e4⟩)
      | (obtain ⟨e1, e2, e3, e4⟩ := cells_three w3 w3.heap.size rfl ⟨0, 0, ⟨f.bytes.toArray⟩⟩ ⟨0, 0, f.name⟩ ⟨0, 0, f.who⟩ 112; exact ⟨_, _, _, rfl, rfl, rfl, e3, e2, e1, e4⟩)
  case rest =>
  obtain ⟨P8, P9, P10, rfl, rfl, rfl, h8, h9, h10, hb4⟩ := hcut
  obtain ⟨w4, rfl⟩ : ∃ x, x = wc := ⟨_, rfl⟩
  have HB4 := Lib.hid (HB1.out.trans ((HB3.out.trans (hb4.mono HB3.out.size)).mono HB1.out.size))
  have hf4 := HF3.out.on hz3 hb4
  have q4 := H4'.out.on hb4
  have q5 := H5'.out.on hb4
  have q6 := H6.out.on hb4
  have q7 := H7.out.on hb4
  clear c0 c1 c2 c3 c4 c5 c6 c7 c8 c9 k0 k1 k2 k3 hb4 H4' H5' H6 H7 HF3 HB3 HB2 HF1 HW1 hw1 hA
  obtain ⟨kd, sq, gt, st, am, cd, wh, nm, wt, by_⟩ := f
  obtain ⟨c0, c1, c2, c3, c4, c5, c6, c7, c8, c9⟩ := hf4
  obtain ⟨l4, p40, p41, p42⟩ := q4
  obtain ⟨l5, p50, p51, p52⟩ := q5
  obtain ⟨l6, p60, p61, p62⟩ := q6
  obtain ⟨l7, p70, p71, p72⟩ := q7
  obtain ⟨l8, p80, p81, p82⟩ := h8
  obtain ⟨l9, p90, p91, p92⟩ := h9
  obtain ⟨la, pa0, pa1, pa2⟩ := h10
  simp only [noS] at c0 c4 c8 p40 p41 p42 p50 p51 p52 p60 p61 p62 p70 p71 p72 p80 p81 p82 p90 p91 p92 pa0 pa1 pa2
  dsimp only
  clear c1 c2 c3 c5 c6 c7 c9
  by_cases hk : 1 ≤ kd ∧ kd ≤ 17
  · rcases kind_cases hk with h | h | h | h | h | h | h | h | h | h | h | h | h | h | h | h | h <;> subst h
    · go_wp2_with fail
      go_region
      all_goals
        go_wp2_with fail
        go_ret2
        exact cells_post (w4 := w4) [116, 113, 114] [⟨0, 0, wh⟩, ⟨gt, 0, noS⟩, ⟨0, 0, ⟨by_.toArray⟩⟩] 112 HB4.out rfl (by simp) (by simp)
    · go_wp2_with fail
      go_region
      all_goals
        go_wp2_with fail
        go_ret2
        exact cells_post (w4 := w4) [114] [⟨0, 0, ⟨by_.toArray⟩⟩] 112 HB4.out rfl (by simp) (by simp)
    · go_wp2_with fail
      go_region
      all_goals
        go_wp2_with fail
        go_ret2
        exact cells_post (w4 := w4) [114] [⟨0, 0, ⟨by_.toArray⟩⟩] 112 HB4.out rfl (by simp) (by simp)
    · go_wp2_with fail
      go_region
      all_goals
        go_wp2_with fail
        go_ret2
        exact cells_post (w4 := w4) [113, 114] [⟨gt, 0, noS⟩, ⟨0, 0, ⟨by_.toArray⟩⟩] 112 HB4.out rfl (by simp) (by simp)
    · go_wp2_with fail
      go_region
      all_goals
        go_wp2_with fail
        go_ret2
        exact cells_post (w4 := w4) [98] [⟨cd, 0, noS⟩] 112 HB4.out rfl (by simp) (by simp)
    · go_wp2_with fail
      go_region
      all_goals
        go_wp2_with fail
        go_ret2
        exact cells_post (w4 := w4) [113] [⟨gt, 0, noS⟩] 112 HB4.out rfl (by simp) (by simp)
    · go_wp2_with fail
      go_region
      all_goals
        go_wp2_with fail
        go_ret2
        exact cells_post (w4 := w4) [113, 119, 116] [⟨sq, 0, noS⟩, ⟨st, 0, noS⟩, ⟨0, 0, nm⟩] 112 HB4.out rfl (by simp) (by simp)
    · go_wp2_with fail
      go_region
      all_goals
        go_wp2_with fail
        go_ret2
        exact cells_post (w4 := w4) [113, 119] [⟨sq, 0, noS⟩, ⟨st, 0, noS⟩] 112 HB4.out rfl (by simp) (by simp)
    · go_wp2_with fail
      go_region
      all_goals
        go_wp2_with fail
        go_ret2
        exact cells_post (w4 := w4) [113, 119, 114] [⟨sq, 0, noS⟩, ⟨st, 0, noS⟩, ⟨0, 0, ⟨by_.toArray⟩⟩] 112 HB4.out rfl (by simp) (by simp)
    · go_wp2_with fail
      go_region
      all_goals
        go_wp2_with fail
        go_ret2
        exact cells_post (w4 := w4) [113, 119, 119] [⟨sq, 0, noS⟩, ⟨st, 0, noS⟩, ⟨am, 0, noS⟩] 112 HB4.out rfl (by simp) (by simp)
    · go_wp2_with fail
      go_region
      all_goals
        go_wp2_with fail
        go_ret2
        exact cells_post (w4 := w4) [113, 119] [⟨sq, 0, noS⟩, ⟨st, 0, noS⟩] 112 HB4.out rfl (by simp) (by simp)
    · go_wp2_with fail
      go_region
      all_goals
        go_wp2_with fail
        go_ret2
        exact cells_post (w4 := w4) [113, 119, 98] [⟨sq, 0, noS⟩, ⟨st, 0, noS⟩, ⟨cd, 0, noS⟩] 112 HB4.out rfl (by simp) (by simp)
    · go_wp2_with fail
      (go_region_with (go_at_call 53; refine (bits_any _ _).mono ?_; rintro e w9 ⟨rfl, rfl⟩))
      all_goals
        go_wp2_with fail
        go_ret2
        exact cells_post (w4 := w4) [113, 116, 102] [⟨sq, 0, noS⟩, ⟨0, 0, nm⟩, ⟨0, wt, noS⟩] 112 HB4.out rfl (by simp) (by simp)
    · go_wp2_with fail
      go_region
      all_goals
        go_wp2_with fail
        go_ret2
        exact cells_post (w4 := w4) [113, 116] [⟨sq, 0, noS⟩, ⟨0, 0, nm⟩] 112 HB4.out rfl (by simp) (by simp)
    · go_wp2_with fail
      go_region
      all_goals
        go_wp2_with fail
        go_ret2
        exact cells_post (w4 := w4) [113, 116, 116] [⟨sq, 0, noS⟩, ⟨0, 0, wh⟩, ⟨0, 0, nm⟩] 112 HB4.out rfl (by simp) (by simp)
    · go_wp2_with fail
      go_region
      all_goals
        go_wp2_with fail
        go_ret2
        exact cells_post (w4 := w4) [113, 116, 116] [⟨sq, 0, noS⟩, ⟨0, 0, wh⟩, ⟨0, 0, nm⟩] 112 HB4.out rfl (by simp) (by simp)
    · go_wp2_with fail
      go_region
      all_goals
        go_wp2_with fail
        go_ret2
        exact cells_post (w4 := w4) [113, 98, 116] [⟨sq, 0, noS⟩, ⟨cd, 0, noS⟩, ⟨0, 0, nm⟩] 112 HB4.out rfl (by simp) (by simp)
  · have e1 : layoutF kd = [] := by unfold layoutF; rw [shape_out hk]; rfl
    have e2 : cellsF ⟨kd, sq, gt, st, am, cd, wh, nm, wt, by_⟩ = [] := by unfold cellsF; rw [show shapeF (Fr.kind ⟨kd, sq, gt, st, am, cd, wh, nm, wt, by_⟩) = [] from shape_out hk]; rfl
    have n1 : (kd == 1) = false := by rw [beq_eq_false_iff_ne]; omega
    have n2 : (kd == 2) = false := by rw [beq_eq_false_iff_ne]; omega
    have n3 : (kd == 3) = false := by rw [beq_eq_false_iff_ne]; omega
    have n4 : (kd == 4) = false := by rw [beq_eq_false_iff_ne]; omega
    have n5 : (kd == 5) = false := by rw [beq_eq_false_iff_ne]; omega
    have n6 : (kd == 6) = false := by rw [beq_eq_false_iff_ne]; omega
    have n7 : (kd == 7) = false := by rw [beq_eq_false_iff_ne]; omega
    have n8 : (kd == 8) = false := by rw [beq_eq_false_iff_ne]; omega
    have n9 : (kd == 9) = false := by rw [beq_eq_false_iff_ne]; omega
    have n10 : (kd == 10) = false := by rw [beq_eq_false_iff_ne]; omega
    have n11 : (kd == 11) = false := by rw [beq_eq_false_iff_ne]; omega
    have n12 : (kd == 12) = false := by rw [beq_eq_false_iff_ne]; omega
    have n13 : (kd == 13) = false := by rw [beq_eq_false_iff_ne]; omega
    have n14 : (kd == 14) = false := by rw [beq_eq_false_iff_ne]; omega
    have n15 : (kd == 15) = false := by rw [beq_eq_false_iff_ne]; omega
    have n16 : (kd == 16) = false := by rw [beq_eq_false_iff_ne]; omega
    have n17 : (kd == 17) = false := by rw [beq_eq_false_iff_ne]; omega
    have E1 := Lib.hid e1
    have E2 := Lib.hid e2
    clear e1 e2
    go_wp2_with fail
    go_ret2
    show CellsP w (layoutF kd) (cellsF ⟨kd, sq, gt, st, am, cd, wh, nm, wt, by_⟩) _ _
    rw [E1.out, E2.out]
    exact ⟨HB4.out, none, 0, rfl, Nat.le_refl _, by decide, RdC.nil _ _ _⟩
end Go.Proofs.YtpekagkhgegefaaDoor
