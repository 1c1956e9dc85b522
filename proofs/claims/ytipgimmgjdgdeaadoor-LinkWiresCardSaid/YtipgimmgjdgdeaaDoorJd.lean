/- Walk of package replay: next. -/
import Derived.Test.YtipgimmgjdgdeaaDoorJc
set_option linter.unusedVariables false
set_option linter.unusedSimpArgs false
set_option linter.unnecessarySimpa false
namespace Go.Proofs.YtipgimmgjdgdeaaDoor
open Go.RowKit
attribute [local go_sem] run_store_flt

/-! ### A whole block is stored over -/
theorem heap_setCells (g : Nat) (t : TypeId) : ∀ (vs pre mid : List Value) (w : World), mid.length = vs.length → w.heap[g]? = some (.cells (pre ++ mid).toArray t (0, 0)) → (w.setCells g pre.length vs).heap[g]? = some (.cells (pre ++ vs).toArray t (0, 0))
  | [], pre, mid, w, hl, h => by
    obtain rfl : mid = [] := List.eq_nil_of_length_eq_zero hl
    exact h
  | v :: vs, pre, [], w, hl, h => by simp at hl
  | v :: vs, pre, m :: mid, w, hl, h => by
    have h1 : (w.setCell ⟨g, pre.length, none⟩ v).heap[g]? = some (.cells ((pre ++ [v]) ++ mid).toArray t (0, 0)) := by
      rw [heap_setCell_same w g pre.length _ _ v h]
      congr 2
      simp
    have h2 := heap_setCells g t vs (pre ++ [v]) mid (w.setCell ⟨g, pre.length, none⟩ v) (by simpa using hl) h1
    rw [List.length_append] at h2
    simpa [World.setCells] using h2
theorem heap_setAll {w : World} {g : Nat} {t : TypeId} {cs : Array Value} (vs : List Value) (h : w.heap[g]? = some (.cells cs t (0, 0))) (hl : cs.size = vs.length) : (w.setCells g 0 vs).heap[g]? = some (.cells vs.toArray t (0, 0)) := by
  have h2 := heap_setCells g t vs [] cs.toList w (by simpa using hl) (by simpa using h)
  simpa using h2
theorem below_setCells (B0 g : Nat) (hB : B0 ≤ g) {w0 : World} : ∀ (vs : List Value) (o : Nat) (w : World), Below B0 w0 w → Below B0 w0 (w.setCells g o vs)
  | [], _, _, h => h
  | v :: vs, o, w, h => below_setCells B0 g hB vs (o + 1) _ (h.setCell (by exact hB) v)
theorem setCells_other (w : World) (g o : Nat) (vs : List Value) {k : Nat} (h : k ≠ g) : (w.setCells g o vs).heap[k]? = w.heap[k]? := by
  induction vs generalizing o w with
  | nil => rfl
  | cons v vs ih => exact (ih (w.setCell ⟨g, o, none⟩ v) (o + 1)).trans (heap_setCell_other _ _ _ _ h)
/-- What package replay finds in memory. -/
structure REnv (w : World) (es : Er → Addr) : Prop where
  fenv : FEnv w es
  full : ErrAt w.heap.size w 0 (es .full)
  gap : ErrAt w.heap.size w 2 (es .gap)
theorem REnv.step {w w' : World} {es : Er → Addr} (h : REnv w es) (hb : Below w.heap.size w w') : REnv w' es := ⟨h.fenv.step hb, (h.full.below hb).more hb.size, (h.gap.below hb).more hb.size⟩
def zeroKt : Array Value := #[.int .i64 0, .int .i64 0, .int .i64 0, .int .i64 0, .int .i64 0, .int .i64 0, .string ⟨#[]⟩, .string ⟨#[]⟩, .float .f64 0, .slice none 0 0, .int .i64 0]
theorem cells11 {W : World} {g : Nat} {t : TypeId} {fr : Nat × Nat} {a0 a1 a2 a3 a4 a5 a6 a7 a8 a9 a10 : Value} (h : W.heap[g]? = some (.cells #[a0, a1, a2, a3, a4, a5, a6, a7, a8, a9, a10] t fr)) :
    W.cell? ⟨g, 0, none⟩ = some a0 ∧ W.cell? ⟨g, 1, none⟩ = some a1 ∧ W.cell? ⟨g, 2, none⟩ = some a2 ∧ W.cell? ⟨g, 3, none⟩ = some a3 ∧ W.cell? ⟨g, 4, none⟩ = some a4 ∧ W.cell? ⟨g, 5, none⟩ = some a5 ∧ W.cell? ⟨g, 6, none⟩ = some a6 ∧ W.cell? ⟨g, 7, none⟩ = some a7 ∧ W.cell? ⟨g, 8, none⟩ = some a8 ∧ W.cell? ⟨g, 9, none⟩ = some a9 ∧ W.cell? ⟨g, 10, none⟩ = some a10 :=
  ⟨(cell_of_row _ _ _ _ _ _ h).trans rfl, (cell_of_row _ _ _ _ _ _ h).trans rfl, (cell_of_row _ _ _ _ _ _ h).trans rfl, (cell_of_row _ _ _ _ _ _ h).trans rfl, (cell_of_row _ _ _ _ _ _ h).trans rfl, (cell_of_row _ _ _ _ _ _ h).trans rfl, (cell_of_row _ _ _ _ _ _ h).trans rfl, (cell_of_row _ _ _ _ _ _ h).trans rfl, (cell_of_row _ _ _ _ _ _ h).trans rfl, (cell_of_row _ _ _ _ _ _ h).trans rfl, (cell_of_row _ _ _ _ _ _ h).trans rfl⟩
/-- What next answers. -/
def NextRP (es : Er → Addr) (w : World) (o : Ro) (f : Fr) (e : Ending) (w' : World) : Prop :=
  Below w.heap.size w w' ∧ match o.may f with
  | none => ∃ A c, e = .returned (.tuple #[.agg (ktCs (o.as f) A c).toArray, .nilIface]) ∧ RdC (fun k => w.heap.size ≤ k ∧ k < w'.heap.size) w' A (bvs f.bytes)
  | some er => e = .returned (.tuple #[.agg zeroKt, errV (es er)])
theorem NextRP.ok {es : Er → Addr} {w w' : World} {o : Ro} {f : Fr} {e : Ending} (h : NextRP es w o f e w') (hm : o.may f = none) : Below w.heap.size w w' ∧ ∃ A c, e = .returned (.tuple #[.agg (ktCs (o.as f) A c).toArray, .nilIface]) ∧ RdC (fun k => w.heap.size ≤ k ∧ k < w'.heap.size) w' A (bvs f.bytes) := by
  obtain ⟨hb, h⟩ := h
  rw [hm] at h
  exact ⟨hb, h⟩
theorem NextRP.er {es : Er → Addr} {w w' : World} {o : Ro} {f : Fr} {e : Ending} {er : Er} (h : NextRP es w o f e w') (hm : o.may f = some er) : e = .returned (.tuple #[.agg zeroKt, errV (es er)]) ∧ Below w.heap.size w w' := by
  obtain ⟨hb, h⟩ := h
  rw [hm] at h
  exact ⟨h, hb⟩
def ktL (f : Fr) (A : Option Addr) (c K : Nat) : List Value := [.int .i64 f.kind, .int .i64 f.seq, .int .i64 f.got, .int .i64 f.stream, .int .i64 f.amount, .int .i64 f.code, .string f.who, .string f.name, .float .f64 f.weight, .slice A f.bytes.length c, .int .i64 (K : Nat)]
theorem next_ret' {Q : Ending → World → Prop} {W : World} {B : Nat} {g : Fr} {A : Option Addr} {c K : Nat} {tmps : Array Value} (hk : W.heap[B]? = some (.cells zeroKt 92 (0, 0)))
    (h4 : tmps[4]? = some (.pointer (some ⟨B, 0, none⟩))) (h5 : tmps[5]? = some .nilIface) (hR : Q (.returned (.tuple #[.agg (ktL g A c K).toArray, .nilIface])) (W.setCells B 0 (ktL g A c K))) :
    bodyPost Tryd.prog Tryd.f50 Q .ret { tmps := tmps, defers := [] } (W.setCells B 0 (ktL g A c K)) := by
  have hfin : (W.setCells B 0 (ktL g A c K)).heap[B]? = some (.cells #[.int .i64 g.kind, .int .i64 g.seq, .int .i64 g.got, .int .i64 g.stream, .int .i64 g.amount, .int .i64 g.code, .string g.who, .string g.name, .float .f64 g.weight, .slice A g.bytes.length c, .int .i64 (K : Nat)] 92 (0, 0)) := heap_setAll (ktL g A c K) hk rfl
  obtain ⟨y0, y1, y2, y3, y4, y5, y6, y7, y8, y9, y10⟩ := cells11 hfin
  generalize W.setCells B 0 (ktL g A c K) = W' at *
  refine bodyPost_ret (v := .tuple #[.agg (ktL g A c K).toArray, .nilIface]) ?_ rfl hR
  simp [results, Tryd.results50, go_sem, h4, h5, ktL, y0, y1, y2, y3, y4, y5, y6, y7, y8, y9, y10]
set_option maxRecDepth 8000 in
set_option maxHeartbeats 6400000 in
theorem next_any' (es : Er → Addr) (M : Nat → Prop) (w : World) (G : Nat) (v : Value) (o : Ro) (f : Fr) (A : Option Addr) (c : Nat) (hE : REnv w es) (s : OutAt M w G v o) (hf : o.fine) (hl : f.lens) (hA : RdC (· < w.heap.size) w A (bvs f.bytes)) (hbl : f.bytes.length ≤ 100000000000000) :
    Calls Tryd.prog 50 #[.pointer (some ⟨G, 0, none⟩), frV f A c] w (NextRP es w o f) := by
  obtain ⟨w1, hw1⟩ : ∃ W, W = (w.alloc (Obj.cells (frCs f A c) 33)).alloc (Obj.cells zeroKt 92) := ⟨_, rfl⟩
  have hb0 : Below w.heap.size w (w.alloc (Obj.cells (frCs f A c) 33)) := below_box _ _
  have hb1 : Below w.heap.size w w1 := by rw [hw1]; exact hb0.alloc hb0.size _
  have hh : w1.heap[w.heap.size]? = some (.cells (frCs f A c) 33 (0, 0)) := by
    rw [hw1]
    exact ((below_box (w.alloc (Obj.cells (frCs f A c) 33)) (Obj.cells zeroKt 92)).block w.heap.size (by simp)).trans (heap_alloc_new _ _)
  have hk : w1.heap[w.heap.size + 1]? = some (.cells zeroKt 92 (0, 0)) := by
    rw [hw1]
    have := heap_alloc_new (w.alloc (Obj.cells (frCs f A c) 33)) (Obj.cells zeroKt 92)
    simpa using this
  have hs1 : w1.heap.size = w.heap.size + 1 + 1 := by rw [hw1]; simp
  have HLs := Lib.hid (last_any M w1 G v o (s.on hb1) hf)
  have HS := Lib.hid s
  have HFn := Lib.hid hf
  have HE := Lib.hid hE
  have HLn := Lib.hid hl
  have HA := Lib.hid hA
  have HB1 := Lib.hid hb1
  have HH1 := Lib.hid hh
  have HK1 := Lib.hid hk
  have HS1 := Lib.hid hs1
  have HW1 := Lib.hid hw1.symm
  have hll := hf.last
  clear s hf hE hl hA hb1 hh hk hb0 hw1 hs1
  unfold frV
  simp only [frCs, zeroKt] at HW1
  go_enter Tryd.func50, Tryd.ntmps50
  go_wp2_with (rw [HW1.out])
  refine HLs.out.mono ?_
  rintro e w2 ⟨rfl, n2, hw2⟩
  have hb12 : Below w1.heap.size w1 w2 := by rw [hw2]; exact below_drewN (Below.refl _ _) _
  have HB2 := Lib.hid (below_on HB1.out hb12)
  have hh2 : w2.heap[w.heap.size]? = some (.cells (frCs f A c) 33 (0, 0)) := by rw [hw2]; exact HH1.out
  have HK2 := Lib.hid (show w2.heap[w.heap.size + 1]? = some (.cells zeroKt 92 (0, 0)) by rw [hw2]; exact HK1.out)
  have hs2 : w2.heap.size = w.heap.size + 1 + 1 := by rw [hw2]; exact HS1.out
  have hP2 : w.heap.size < w2.heap.size := by omega
  obtain ⟨d0, d1, d2, d3, d4, d5, d6, d7, d8, d9⟩ := FrC.of_heap hh2
  have hfz : ∀ j, w2.frozen? ⟨w.heap.size, j, none⟩ = false := fun j => frozen_of_row w2 w.heap.size j _ _ hh2
  have j0 : IntKind.i64.wrap ((o.last : Int) + 1) = (o.last : Int) + 1 := IntWalk.i64_in _ (by omega)
  obtain ⟨w3, hw3⟩ : ∃ W, W = w2.setCell ⟨w.heap.size, 1, none⟩ (.int .i64 ((o.last : Int) + 1)) := ⟨_, rfl⟩
  have hh3 : w3.heap[w.heap.size]? = some (.cells (frCs (o.as f) A c) 33 (0, 0)) := by rw [hw3]; exact heap_setCell_same _ _ 1 _ _ _ hh2
  have hb3 : Below w.heap.size w w3 := by rw [hw3]; exact HB2.out.setCell (Nat.le_refl _) _
  have hk3 : w3.heap[w.heap.size + 1]? = some (.cells zeroKt 92 (0, 0)) := by rw [hw3, heap_setCell_other _ _ _ _ (by show w.heap.size + 1 ≠ w.heap.size; omega)]; exact HK2.out
  have hs3 : w3.heap.size = w.heap.size + 1 + 1 := by rw [hw3, World.size_setCell]; exact hs2
  have HCl := Lib.hid (clone_any w3 A f.bytes.length c f.bytes rfl (HA.out.step hb3) hbl)
  have HB3 := Lib.hid hb3
  have HH3 := Lib.hid hh3
  have HK3 := Lib.hid hk3
  have HS3 := Lib.hid hs3
  have HW3 := Lib.hid hw3.symm
  clear hw2 hb12 hh2 hw3 hh3 hb3 hk3 hs3
  go_wp2_with fail
  rw [HW3.out]
  refine HCl.out.mono ?_
  rintro e w4 ⟨hb34, A4, c4, rfl, ho4⟩
  clear d0 d1 d2 d3 d4 d5 d6 d7 d8 d9 hfz
  have hh4 := (hb34.block w.heap.size (by rw [HS3.out]; omega)).trans HH3.out
  have hk4 := (hb34.block (w.heap.size + 1) (by rw [HS3.out]; omega)).trans HK3.out
  have HB4 := Lib.hid (below_on HB3.out hb34)
  have hz4 : w.heap.size + 1 + 1 ≤ w4.heap.size := by rw [← HS3.out]; exact hb34.size
  have hP4 : w.heap.size < w4.heap.size := by omega
  have hr4 := (RdC.of_own ho4).mono (ok' := fun k => w.heap.size + 1 + 1 ≤ k ∧ k < w4.heap.size) (fun k hk => by rw [HS3.out] at hk; exact hk)
  obtain ⟨w5, hw5⟩ : ∃ W, W = w4.setCell ⟨w.heap.size, 9, none⟩ (.slice A4 f.bytes.length c4) := ⟨_, rfl⟩
  have hh5 : w5.heap[w.heap.size]? = some (.cells (frCs (o.as f) A4 c4) 33 (0, 0)) := by rw [hw5]; exact heap_setCell_same _ _ 9 _ _ _ hh4
  have hb5 : Below w.heap.size w w5 := by rw [hw5]; exact HB4.out.setCell (Nat.le_refl _) _
  have hk5 : w5.heap[w.heap.size + 1]? = some (.cells zeroKt 92 (0, 0)) := by rw [hw5, heap_setCell_other _ _ _ _ (by show w.heap.size + 1 ≠ w.heap.size; omega)]; exact hk4
  have hs5 : w5.heap.size = w4.heap.size := by rw [hw5, World.size_setCell]
  have hr5 : RdC (fun k => w.heap.size + 1 + 1 ≤ k ∧ k < w5.heap.size) w5 A4 (bvs f.bytes) := by
    rw [hs5, hw5]
    exact hr4.move (fun k hk => heap_setCell_other _ _ _ _ (by show k ≠ w.heap.size; omega))
  have hl5 : (o.as f).lens := ⟨HLn.out.who, HLn.out.name, HLn.out.bytes⟩
  have hput := putF_any es (o.as f) A4 c4 w5 ((HE.out.step hb5).fenv) hl5 (hr5.mono (fun k hk => hk.2))
  obtain ⟨d0, d1, d2, d3, d4, d5, d6, d7, d8, d9⟩ := FrC.of_heap hh5
  obtain ⟨e0, e1, e2, e3, e4, e5, e6, e7, e8, e9⟩ := FrC.of_heap hh4
  have hfz : ∀ j, w4.frozen? ⟨w.heap.size, j, none⟩ = false := fun j => frozen_of_row w4 w.heap.size j _ _ hh4
  have HB5 := Lib.hid hb5
  have HH5 := Lib.hid hh5
  have HK5 := Lib.hid hk5
  have HR5 := Lib.hid hr5
  have HW5 := Lib.hid hw5.symm
  have HPt := Lib.hid hput
  have hP5 : w.heap.size + 1 + 1 ≤ w5.heap.size := by omega
  clear hb34 ho4 hh4 hk4 hr4 hw5 hh5 hb5 hk5 hs5 hr5 hput
  go_wp2_with fail
  rw [HW5.out]
  cases hck : checkF (o.as f) with
  | false =>
    have hM := Lib.hid (show o.may f = some .frame by unfold Ro.may; rw [if_neg (by rw [hck]; simp)])
    refine (HPt.out.mono fun e w' h => h.er hck).mono ?_
    rintro e w6 ⟨rfl, hb6⟩
    have hk6 := (hb6.block (w.heap.size + 1) (by omega)).trans HK5.out
    have HB6 := Lib.hid (below_on HB5.out hb6)
    have hz6 : w.heap.size + 1 < w6.heap.size := by have := hb6.size; omega
    obtain ⟨z0, z1, z2, z3, z4, z5, z6, z7, z8, z9, z10⟩ := cells11 hk6
    have hfk : ∀ j, w6.frozen? ⟨w.heap.size + 1, j, none⟩ = false := fun j => frozen_of_row w6 (w.heap.size + 1) j _ _ hk6
    have s0 : w6.setCell ⟨w.heap.size + 1, 0, none⟩ (.int .i64 0) = w6 := setCell_id' hk6 rfl
    have s1 : w6.setCell ⟨w.heap.size + 1, 1, none⟩ (.int .i64 0) = w6 := setCell_id' hk6 rfl
    have s2 : w6.setCell ⟨w.heap.size + 1, 2, none⟩ (.int .i64 0) = w6 := setCell_id' hk6 rfl
    have s3 : w6.setCell ⟨w.heap.size + 1, 3, none⟩ (.int .i64 0) = w6 := setCell_id' hk6 rfl
    have s4 : w6.setCell ⟨w.heap.size + 1, 4, none⟩ (.int .i64 0) = w6 := setCell_id' hk6 rfl
    have s5 : w6.setCell ⟨w.heap.size + 1, 5, none⟩ (.int .i64 0) = w6 := setCell_id' hk6 rfl
    have s6 : w6.setCell ⟨w.heap.size + 1, 6, none⟩ (.string ⟨#[]⟩) = w6 := setCell_id' hk6 rfl
    have s7 : w6.setCell ⟨w.heap.size + 1, 7, none⟩ (.string ⟨#[]⟩) = w6 := setCell_id' hk6 rfl
    have s8 : w6.setCell ⟨w.heap.size + 1, 8, none⟩ (.float .f64 0) = w6 := setCell_id' hk6 rfl
    have s9 : w6.setCell ⟨w.heap.size + 1, 9, none⟩ (.slice none 0 0) = w6 := setCell_id' hk6 rfl
    have s10 : w6.setCell ⟨w.heap.size + 1, 10, none⟩ (.int .i64 0) = w6 := setCell_id' hk6 rfl
    clear hb6 hk6 hck d0 d1 d2 d3 d4 d5 d6 d7 d8 d9 e0 e1 e2 e3 e4 e5 e6 e7 e8 e9 hfz
    unfold errV
    go_wp2_with fail
    clear s0 s1 s2 s3 s4 s5 s6 s7 s8 s9 s10
    exact bodyPost_ret (v := .tuple #[.agg zeroKt, errV (es .frame)]) (by simp [results, Tryd.results50, go_sem, zeroKt, errV, z0, z1, z2, z3, z4, z5, z6, z7, z8, z9, z10]) rfl ⟨HB6.out, by rw [hM.out]⟩
  | true =>
    have hput2 := HPt.out.mono fun e w' h => h.ok hck
    have hsz := sizeF_in hck
    have HPe := Lib.hid (show sizeF (o.as f) = (putF (o.as f)).length from rfl)
    have HCk := Lib.hid hck
    have hgen : (putF (o.as f)).length ≤ 607 := hsz.2
    generalize putF (o.as f) = P at *
    have HP2 := Lib.hid hput2
    clear hput2 hck HPt hsz
    refine HP2.out.mono ?_
    rintro e w6 ⟨hb6, PB, cp, rfl, hcp, hob⟩
    clear d0 d1 d2 d3 d4 d5 d6 d7 d8 d9 e0 e1 e2 e3 e4 e5 e6 e7 e8 e9 hfz hob
    have hk6 := (hb6.block (w.heap.size + 1) (by omega)).trans HK5.out
    have hh6 := (hb6.block w.heap.size (by omega)).trans HH5.out
    have HB6 := Lib.hid (below_on HB5.out hb6)
    have hz6 : w.heap.size + 1 < w6.heap.size := by have := hb6.size; omega
    have HR6 := Lib.hid (HR5.out.move (fun k hk => hb6.block k hk.2))
    have hz56 := hb6.size
    obtain ⟨z0, z1, z2, z3, z4, z5, z6, z7, z8, z9, z10⟩ := cells11 hk6
    obtain ⟨d0, d1, d2, d3, d4, d5, d6, d7, d8, d9⟩ := FrC.of_heap hh6
    have hfk : ∀ j, w6.frozen? ⟨w.heap.size + 1, j, none⟩ = false := fun j => frozen_of_row w6 (w.heap.size + 1) j _ _ hk6
    have HK6 := Lib.hid hk6
    cases hr : rowF f.kind with
    | false =>
      have hM := Lib.hid (show o.may f = some .frame by unfold Ro.may; rw [if_neg (by rw [hr]; simp)])
      have HR := Lib.hid (show rowF (o.as f).kind = false from hr)
      have he := ((HE.out.step HB6.out).fenv.frame).at
      unfold errV at he
      have s0 : w6.setCell ⟨w.heap.size + 1, 0, none⟩ (.int .i64 0) = w6 := setCell_id' hk6 rfl
      have s1 : w6.setCell ⟨w.heap.size + 1, 1, none⟩ (.int .i64 0) = w6 := setCell_id' hk6 rfl
      have s2 : w6.setCell ⟨w.heap.size + 1, 2, none⟩ (.int .i64 0) = w6 := setCell_id' hk6 rfl
      have s3 : w6.setCell ⟨w.heap.size + 1, 3, none⟩ (.int .i64 0) = w6 := setCell_id' hk6 rfl
      have s4 : w6.setCell ⟨w.heap.size + 1, 4, none⟩ (.int .i64 0) = w6 := setCell_id' hk6 rfl
      have s5 : w6.setCell ⟨w.heap.size + 1, 5, none⟩ (.int .i64 0) = w6 := setCell_id' hk6 rfl
      have s6 : w6.setCell ⟨w.heap.size + 1, 6, none⟩ (.string ⟨#[]⟩) = w6 := setCell_id' hk6 rfl
      have s7 : w6.setCell ⟨w.heap.size + 1, 7, none⟩ (.string ⟨#[]⟩) = w6 := setCell_id' hk6 rfl
      have s8 : w6.setCell ⟨w.heap.size + 1, 8, none⟩ (.float .f64 0) = w6 := setCell_id' hk6 rfl
      have s9 : w6.setCell ⟨w.heap.size + 1, 9, none⟩ (.slice none 0 0) = w6 := setCell_id' hk6 rfl
      have s10 : w6.setCell ⟨w.heap.size + 1, 10, none⟩ (.int .i64 0) = w6 := setCell_id' hk6 rfl
      clear hb6 hk6 hh6 hr
      go_wp2_with (go_at_call 52; refine (row_any _ _).mono ?_; rintro e w' ⟨rfl, rfl⟩; rw [HR.out])
      go_region
      clear s0 s1 s2 s3 s4 s5 s6 s7 s8 s9 s10
      go_wp2_with fail
      exact bodyPost_ret (v := .tuple #[.agg zeroKt, errV (es .frame)]) (by simp [results, Tryd.results50, go_sem, zeroKt, errV, z0, z1, z2, z3, z4, z5, z6, z7, z8, z9, z10]) rfl ⟨by repeat (first | exact HB6.out | refine Below.drew ?_ | refine below_drewN ?_ _ | refine Below.setCell ?_ (by show w.heap.size ≤ w.heap.size + 1; omega) _), by rw [hM.out]⟩
    | true =>
      have HR := Lib.hid (show rowF (o.as f).kind = true from hr)
      have HSo := Lib.hid (HS.out.on HB6.out)
      have g2 := HSo.out.c2
      have hrm := HFn.out.room
      have hrm' : o.bytes ≤ 8192 := hrm
      have j1 : IntKind.i64.wrap ((o.bytes : Int) + (P.length : Int)) = (o.bytes : Int) + (P.length : Int) := IntWalk.i64_in _ (by omega)
      by_cases hfu : o.bytes + P.length ≤ 8192
      · have hM := Lib.hid (show o.may f = none by unfold Ro.may; rw [if_pos ⟨HCk.out, hr⟩, if_pos (by rw [HPe.out]; exact hfu)])
        have k1 : ¬ (8192 : Int) < (o.bytes : Int) + (P.length : Int) := by omega
        clear hb6 hk6 hh6 hr hfu
        go_wp2_with (go_at_call 52; refine (row_any _ _).mono ?_; rintro e w' ⟨rfl, rfl⟩; rw [HR.out])
        exact next_ret' (Q := NextRP es w o f) (g := o.as f) (A := A4) (c := c4) (K := P.length) HK6.out rfl rfl ⟨below_setCells _ _ (by omega) _ _ _ HB6.out, by rw [hM.out]; exact ⟨A4, c4, by unfold ktCs; rw [HPe.out]; rfl, (HR6.out.move (fun k hk => setCells_other _ _ _ _ (by omega))).mono (fun k hk => ⟨by omega, by rw [(tape_setCells _ _ _ _).2]; omega⟩)⟩⟩
      · have hM := Lib.hid (show o.may f = some .full by unfold Ro.may; rw [if_pos ⟨HCk.out, hr⟩, if_neg (by rw [HPe.out]; exact hfu)])
        have k1 : (8192 : Int) < (o.bytes : Int) + (P.length : Int) := by omega
        have he := ((HE.out.step HB6.out).full).at
        unfold errV at he
        have s0 : w6.setCell ⟨w.heap.size + 1, 0, none⟩ (.int .i64 0) = w6 := setCell_id' hk6 rfl
        have s1 : w6.setCell ⟨w.heap.size + 1, 1, none⟩ (.int .i64 0) = w6 := setCell_id' hk6 rfl
        have s2 : w6.setCell ⟨w.heap.size + 1, 2, none⟩ (.int .i64 0) = w6 := setCell_id' hk6 rfl
        have s3 : w6.setCell ⟨w.heap.size + 1, 3, none⟩ (.int .i64 0) = w6 := setCell_id' hk6 rfl
        have s4 : w6.setCell ⟨w.heap.size + 1, 4, none⟩ (.int .i64 0) = w6 := setCell_id' hk6 rfl
        have s5 : w6.setCell ⟨w.heap.size + 1, 5, none⟩ (.int .i64 0) = w6 := setCell_id' hk6 rfl
        have s6 : w6.setCell ⟨w.heap.size + 1, 6, none⟩ (.string ⟨#[]⟩) = w6 := setCell_id' hk6 rfl
        have s7 : w6.setCell ⟨w.heap.size + 1, 7, none⟩ (.string ⟨#[]⟩) = w6 := setCell_id' hk6 rfl
        have s8 : w6.setCell ⟨w.heap.size + 1, 8, none⟩ (.float .f64 0) = w6 := setCell_id' hk6 rfl
        have s9 : w6.setCell ⟨w.heap.size + 1, 9, none⟩ (.slice none 0 0) = w6 := setCell_id' hk6 rfl
        have s10 : w6.setCell ⟨w.heap.size + 1, 10, none⟩ (.int .i64 0) = w6 := setCell_id' hk6 rfl
        clear hb6 hk6 hh6 hr hfu
        go_wp2_with (go_at_call 52; refine (row_any _ _).mono ?_; rintro e w' ⟨rfl, rfl⟩; rw [HR.out])
        go_region
        clear s0 s1 s2 s3 s4 s5 s6 s7 s8 s9 s10
        go_wp2_with fail
        exact bodyPost_ret (v := .tuple #[.agg zeroKt, errV (es .full)]) (by simp [results, Tryd.results50, go_sem, zeroKt, errV, z0, z1, z2, z3, z4, z5, z6, z7, z8, z9, z10]) rfl ⟨by repeat (first | exact HB6.out | refine Below.drew ?_ | refine below_drewN ?_ _ | refine Below.setCell ?_ (by show w.heap.size ≤ w.heap.size + 1; omega) _), by rw [hM.out]⟩
end Go.Proofs.YtipgimmgjdgdeaaDoor
