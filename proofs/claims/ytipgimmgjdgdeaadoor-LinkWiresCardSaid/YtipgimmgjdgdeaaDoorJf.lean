/- Walk of package replay: Push. -/
import Derived.Test.YtipgimmgjdgdeaaDoorJe
import Derived.RegionTactic
import Derived.StillTailTactics
set_option linter.unusedVariables false
set_option linter.unusedSimpArgs false
set_option linter.unnecessarySimpa false
namespace Go.Proofs.YtipgimmgjdgdeaaDoor
open Go.RowKit
attribute [local go_sem] run_store_flt

theorem infoKt : (Tryd.prog.info? 92).map (fun i => (i.zero, i.size, i.bytes)) = some (some (.agg #[.int .i64 0, .int .i64 0, .int .i64 0, .int .i64 0, .int .i64 0, .int .i64 0, .string ⟨#[]⟩, .string ⟨#[]⟩, .float .f64 0, .slice none 0 0, .int .i64 0]), 11, 120) := by kernel_rfl
/-- What Push answers; what the row is behind it. -/
def PushP (es : Er → Addr) (M : Nat → Prop) (w : World) (G : Nat) (v : Value) (o : Ro) (f : Fr) (e : Ending) (w' : World) : Prop :=
  match o.may f with
  | some er => e = .returned (.tuple #[frV (Fr.of 0) none 0, errV (es er)]) ∧ Below w.heap.size w w'
  | none => ∃ A c v', e = .returned (.tuple #[frV (o.as f) A c, .nilIface]) ∧ RdC (fun k => w.heap.size ≤ k ∧ k < w'.heap.size ∧ ¬ OutS G v' k) w' A (bvs f.bytes) ∧ OutAt M w' G v' (o.push f) ∧ Chg (OutS G v) w w' ∧ (cutB v' = cutB v ∨ ∃ b, cutB v' = some b ∧ w.heap.size ≤ b)
theorem PushP.ok {es : Er → Addr} {M : Nat → Prop} {w w' : World} {G : Nat} {v : Value} {o : Ro} {f : Fr} {e : Ending} (h : PushP es M w G v o f e w') (hm : o.may f = none) : ∃ A c v', e = .returned (.tuple #[frV (o.as f) A c, .nilIface]) ∧ RdC (fun k => w.heap.size ≤ k ∧ k < w'.heap.size ∧ ¬ OutS G v' k) w' A (bvs f.bytes) ∧ OutAt M w' G v' (o.push f) ∧ Chg (OutS G v) w w' ∧ (cutB v' = cutB v ∨ ∃ b, cutB v' = some b ∧ w.heap.size ≤ b) := by
  unfold PushP at h
  rw [hm] at h
  exact h
theorem PushP.er {es : Er → Addr} {M : Nat → Prop} {w w' : World} {G : Nat} {v : Value} {o : Ro} {f : Fr} {e : Ending} {er : Er} (h : PushP es M w G v o f e w') (hm : o.may f = some er) : e = .returned (.tuple #[frV (Fr.of 0) none 0, errV (es er)]) ∧ Below w.heap.size w w' := by
  unfold PushP at h
  rw [hm] at h
  exact h
theorem cutR {F G : Option Addr → Nat → World → Prop} {R : Prop} (h1 : (∀ A c W, F A c W → G A c W) → R) (h2 : ∀ A c W, F A c W → G A c W) : R := h1 h2
theorem chg_setCells (w : World) (g o : Nat) (vs : List Value) : Chg (· = g) w (w.setCells g o vs) :=
  ⟨World.os_setCells _ _ _ _, (tape_setCells g vs o w).1, World.output_setCells _ _ _ _, by rw [(tape_setCells g vs o w).2]; exact Nat.le_refl _, fun i hi hn => setCells_other _ _ _ _ hn⟩
theorem push_ret {Q : Ending → World → Prop} {W3 : World} {g : Fr} {A : Option Addr} {K B : Nat} {tmps : Array Value} (h0 : W3.heap[B]? = some (.cells (frCs (Fr.of 0) none 0) 33 (0, 0)))
    (ht : tmps[4]? = some (.pointer (some ⟨B, 0, none⟩))) (h5 : tmps[5]? = some .nilIface) (hR : Q (.returned (.tuple #[frV g A K, .nilIface])) (W3.setCells B 0 (frCs g A K).toList)) :
    bodyPost Tryd.prog Tryd.f16 Q .ret { tmps := tmps, defers := [] } (W3.setCells B 0 (frCs g A K).toList) := by
  have hfin : (W3.setCells B 0 (frCs g A K).toList).heap[B]? = some (.cells (frCs g A K) 33 (0, 0)) := by
    have := heap_setAll (frCs g A K).toList h0 rfl
    simpa using this
  obtain ⟨d0, d1, d2, d3, d4, d5, d6, d7, d8, d9⟩ := FrC.of_heap hfin
  generalize W3.setCells B 0 (frCs g A K).toList = W' at *
  refine bodyPost_ret (v := .tuple #[frV g A K, .nilIface]) ?_ rfl hR
  simp [results, Tryd.results16, go_sem, ht, h5, d0, d1, d2, d3, d4, d5, d6, d7, d8, d9, frV]
set_option maxRecDepth 8000 in
set_option maxHeartbeats 6400000 in
theorem push_any (es : Er → Addr) (M : Nat → Prop) (w : World) (G : Nat) (v : Value) (o : Ro) (f : Fr) (A : Option Addr) (c : Nat) (hE : REnv w es) (s : OutAt M w G v o) (hf : o.fine) (hl : f.lens) (hA : RdC (· < w.heap.size) w A (bvs f.bytes)) (hbl : f.bytes.length ≤ 100000000000000) (hM : ∀ k, w.heap.size ≤ k → M k) :
    Calls Tryd.prog 16 #[.pointer (some ⟨G, 0, none⟩), frV f A c] w (PushP es M w G v o f) := by
  obtain ⟨w1, hw1⟩ : ∃ W, W = (w.alloc (Obj.cells (frCs f A c) 33)).alloc (Obj.cells (frCs (Fr.of 0) none 0) 33) := ⟨_, rfl⟩
  have hb0 : Below w.heap.size w (w.alloc (Obj.cells (frCs f A c) 33)) := below_box _ _
  have hb1 : Below w.heap.size w w1 := by rw [hw1]; exact hb0.alloc hb0.size _
  have hh : w1.heap[w.heap.size]? = some (.cells (frCs f A c) 33 (0, 0)) := by
    rw [hw1]
    exact ((below_box (w.alloc (Obj.cells (frCs f A c) 33)) (Obj.cells (frCs (Fr.of 0) none 0) 33)).block w.heap.size (by simp)).trans (heap_alloc_new _ _)
  have hk : w1.heap[w.heap.size + 1]? = some (.cells (frCs (Fr.of 0) none 0) 33 (0, 0)) := by
    rw [hw1]
    have := heap_alloc_new (w.alloc (Obj.cells (frCs f A c) 33)) (Obj.cells (frCs (Fr.of 0) none 0) 33)
    simpa using this
  have hs1 : w1.heap.size = w.heap.size + 1 + 1 := by rw [hw1]; simp
  have HN := Lib.hid (next_any' es M w1 G v o f A c (hE.step hb1) (s.on hb1) hf hl (hA.step hb1) hbl)
  have HE := Lib.hid hE
  have HS := Lib.hid s
  have HFn := Lib.hid hf
  have HB1 := Lib.hid hb1
  have HK1 := Lib.hid hk
  have HS1 := Lib.hid hs1
  have HW1 := Lib.hid hw1.symm
  obtain ⟨d0, d1, d2, d3, d4, d5, d6, d7, d8, d9⟩ := FrC.of_heap hh
  have hP1 : w.heap.size < w1.heap.size := by omega
  have HM0 := Lib.hid hM
  clear hA hb1 hh hk hb0 hw1 hs1 hE s hf hl hM
  unfold frV at HN
  unfold frV
  simp only [frCs, Fr.of, noS, List.length_nil] at HW1
  go_enter Tryd.func16, Tryd.ntmps16
  cases hm : o.may f with
  | some er =>
    have HM := Lib.hid hm
    have HN2 := Lib.hid (HN.out.mono fun e w' h => h.er hm)
    clear hm
    go_wp2_with (rw [HW1.out])
    refine HN2.out.mono ?_
    rintro e w2 ⟨rfl, hb2⟩
    have HB2 := Lib.hid (below_on HB1.out hb2)
    have hk2 := (hb2.block (w.heap.size + 1) (by rw [HS1.out]; omega)).trans HK1.out
    have hz2 : w.heap.size + 1 < w2.heap.size := by have := hb2.size; have := HS1.out; omega
    clear hb2 d0 d1 d2 d3 d4 d5 d6 d7 d8 d9
    obtain ⟨d0, d1, d2, d3, d4, d5, d6, d7, d8, d9⟩ := FrC.of_heap hk2
    have hfk : ∀ j, w2.frozen? ⟨w.heap.size + 1, j, none⟩ = false := fun j => frozen_of_row w2 (w.heap.size + 1) j _ _ hk2
    have s0 : w2.setCell ⟨w.heap.size + 1, 0, none⟩ (.int .i64 0) = w2 := setCell_id' hk2 rfl
    have s1 : w2.setCell ⟨w.heap.size + 1, 1, none⟩ (.int .i64 0) = w2 := setCell_id' hk2 rfl
    have s2 : w2.setCell ⟨w.heap.size + 1, 2, none⟩ (.int .i64 0) = w2 := setCell_id' hk2 rfl
    have s3 : w2.setCell ⟨w.heap.size + 1, 3, none⟩ (.int .i64 0) = w2 := setCell_id' hk2 rfl
    have s4 : w2.setCell ⟨w.heap.size + 1, 4, none⟩ (.int .i64 0) = w2 := setCell_id' hk2 rfl
    have s5 : w2.setCell ⟨w.heap.size + 1, 5, none⟩ (.int .i64 0) = w2 := setCell_id' hk2 rfl
    have s6 : w2.setCell ⟨w.heap.size + 1, 6, none⟩ (.string ⟨#[]⟩) = w2 := setCell_id' hk2 rfl
    have s7 : w2.setCell ⟨w.heap.size + 1, 7, none⟩ (.string ⟨#[]⟩) = w2 := setCell_id' hk2 rfl
    have s8 : w2.setCell ⟨w.heap.size + 1, 8, none⟩ (.float .f64 0) = w2 := setCell_id' hk2 rfl
    have s9 : w2.setCell ⟨w.heap.size + 1, 9, none⟩ (.slice none 0 0) = w2 := setCell_id' hk2 rfl
    unfold errV zeroKt
    go_wp2_with fail
    clear s0 s1 s2 s3 s4 s5 s6 s7 s8 s9
    exact bodyPost_ret (v := .tuple #[frV (Fr.of 0) none 0, errV (es er)]) (by simp [results, Tryd.results16, go_sem, frV, Fr.of, noS, errV, hz2, d0, d1, d2, d3, d4, d5, d6, d7, d8, d9]) rfl (by unfold PushP; rw [HM.out]; exact ⟨rfl, HB2.out.alloc HB2.out.size _⟩)
  | none =>
    have HM := Lib.hid hm
    have HN2 := Lib.hid (HN.out.mono fun e w' h => h.ok hm)
    clear hm
    go_wp2_with (rw [HW1.out])
    refine HN2.out.mono ?_
    rintro e w2 ⟨hb2, A2, k2, rfl, hr2⟩
    have HB2 := Lib.hid (below_on HB1.out hb2)
    have hk2 := (hb2.block (w.heap.size + 1) (by rw [HS1.out]; omega)).trans HK1.out
    have hz2 : w.heap.size + 1 < w2.heap.size := by have := hb2.size; have := HS1.out; omega
    have HR2 := Lib.hid hr2
    have HK2 := Lib.hid hk2
    clear hb2 d0 d1 d2 d3 d4 d5 d6 d7 d8 d9 hr2 hk2
    rw [show (ktCs (o.as f) A2 k2).toArray = #[.int .i64 (o.as f).kind, .int .i64 (o.as f).seq, .int .i64 (o.as f).got, .int .i64 (o.as f).stream, .int .i64 (o.as f).amount, .int .i64 (o.as f).code, .string (o.as f).who, .string (o.as f).name, .float .f64 (o.as f).weight, .slice A2 (o.as f).bytes.length k2, .int .i64 (sizeF (o.as f) : Nat)] from rfl]
    go_wp2_with fail
    obtain ⟨w3, hw3⟩ : ∃ W, W = w2.alloc (Obj.cells (ktCs (o.as f) A2 k2).toArray 92) := ⟨_, rfl⟩
    have hb3 : Below w2.heap.size w2 w3 := by rw [hw3]; exact below_box _ _
    have hh3 : w3.heap[w2.heap.size]? = some (.cells #[.int .i64 (o.as f).kind, .int .i64 (o.as f).seq, .int .i64 (o.as f).got, .int .i64 (o.as f).stream, .int .i64 (o.as f).amount, .int .i64 (o.as f).code, .string (o.as f).who, .string (o.as f).name, .float .f64 (o.as f).weight, .slice A2 (o.as f).bytes.length k2, .int .i64 (sizeF (o.as f) : Nat)] 92 (0, 0)) := by rw [hw3]; exact heap_alloc_new _ _
    have hs3 : w3.heap.size = w2.heap.size + 1 := by rw [hw3]; simp
    have HB3 := Lib.hid (below_on HB2.out hb3)
    have HSo := Lib.hid (HS.out.on HB3.out)
    obtain ⟨cs, hcut0, hkts⟩ := HS.out.rows
    have hcut := hcut0.step HB3.out
    have HCut := Lib.hid hcut
    have HKts := Lib.hid hkts
    obtain ⟨Av, cv, rfl, hcv, _⟩ := hcut.shape
    have g0 := HSo.out.c0
    have g2 := HSo.out.c2
    have gf := HSo.out.fz
    have hG3 := HSo.out.lt
    obtain ⟨y0, y1, y2, y3, y4, y5, y6, y7, y8, y9, y10⟩ := cells11 hh3
    have HK3 := Lib.hid ((hb3.block (w.heap.size + 1) (by omega)).trans HK2.out)
    have HR3 := Lib.hid (HR2.out.move (fun k hk => hb3.block k hk.2))
    have HHh3 := Lib.hid hh3
    have HS3 := Lib.hid hs3
    obtain ⟨i0, hi, hz0, hz1, hz2i⟩ := info_parts infoKt
    have hfw := HFn.out.few
    rw [show w2.alloc (Obj.cells #[.int .i64 (o.as f).kind, .int .i64 (o.as f).seq, .int .i64 (o.as f).got, .int .i64 (o.as f).stream, .int .i64 (o.as f).amount, .int .i64 (o.as f).code, .string (o.as f).who, .string (o.as f).name, .float .f64 (o.as f).weight, .slice A2 (o.as f).bytes.length k2, .int .i64 (sizeF (o.as f) : Nat)] 92) = w3 from hw3.symm]
    have hw3' : w2.heap.size < w3.heap.size := by omega
    clear hcut hcut0 hkts hw3 hb3 hh3 hs3
    have hbG := HS.out.le
    have HMk := Lib.hid (fun (k : Nat) (hk : (w3.alloc (Obj.cells (ktCs (o.as f) A2 k2).toArray 92)).drew.heap.size ≤ k) => HM0.out k (by simp at hk; omega))
    have HNe := Lib.hid HSo.out.ne
    have HHd := Lib.hid HSo.out.head
    have HSrc := Lib.hid (src_new (P := Tryd.prog) (size := 11) (tx := 86) (e := 92) Tryd.underlying86 w3.drew w3.heap.size rfl (List.toArray ([.int .i64 (o.as f).kind, .int .i64 (o.as f).seq, .int .i64 (o.as f).got, .int .i64 (o.as f).stream, .int .i64 (o.as f).amount, .int .i64 (o.as f).code, .string (o.as f).who, .string (o.as f).name, .float .f64 (o.as f).weight, .slice A2 (o.as f).bytes.length k2, .int .i64 (sizeF (o.as f) : Nat)] : List Value)) rfl (by simp [Value.oneCell']))
    apply cutR (F := fun A7 c7 w7 => CutAt M w7 11 (.slice A7 (o.held.length + 1) c7) (o.held.length + 1) (cs ++ [.int .i64 (o.as f).kind, .int .i64 (o.as f).seq, .int .i64 (o.as f).got, .int .i64 (o.as f).stream, .int .i64 (o.as f).amount, .int .i64 (o.as f).code, .string (o.as f).who, .string (o.as f).name, .float .f64 (o.as f).weight, .slice A2 (o.as f).bytes.length k2, .int .i64 (sizeF (o.as f) : Nat)]) ∧ Grewc (w3.alloc (.cells (List.toArray [.int .i64 (o.as f).kind, .int .i64 (o.as f).seq, .int .i64 (o.as f).got, .int .i64 (o.as f).stream, .int .i64 (o.as f).amount, .int .i64 (o.as f).code, .string (o.as f).who, .string (o.as f).name, .float .f64 (o.as f).weight, .slice A2 (o.as f).bytes.length k2, .int .i64 (sizeF (o.as f) : Nat)]) 92)).drew (.slice Av o.held.length cv) w7 (.slice A7 (o.held.length + 1) c7))
    · intro hrest
      have HRest := Lib.hid hrest
      clear hrest
      go_region_law (refine step_appCut M (.tmp 22) (.tmp 24) 86 86 92 i0 _ 11 120 (by rfl) (by rfl) Tryd.underlying86 hi hz0 hz1 hz2i rfl (by omega) (.slice Av o.held.length cv) o.held.length cs (by rfl) (HCut.out.step ((Below.refl w3.heap.size w3).drew.alloc (by simp) _)) (.slice (some ⟨w3.heap.size, 0, none⟩) 1 1) 1 [.int .i64 (o.as f).kind, .int .i64 (o.as f).seq, .int .i64 (o.as f).got, .int .i64 (o.as f).stream, .int .i64 (o.as f).amount, .int .i64 (o.as f).code, .string (o.as f).who, .string (o.as f).name, .float .f64 (o.as f).weight, .slice A2 (o.as f).bytes.length k2, .int .i64 (sizeF (o.as f) : Nat)] (by rfl) HSrc.out (by omega) HMk.out ?_; intro v7 w7 hc7 hg7; obtain ⟨A7, c7, rfl, _, _⟩ := hc7.shape; have h7G : w7.heap[G]? = some (.cells #[.slice Av o.held.length cv, .int .i64 (o.acked : Nat), .int .i64 (o.bytes : Nat)] 88 (0, 0)) := (hg7.by_.block G (by simp; omega) (fun e => HNe.out e.symm)).trans ((((Below.refl w3.heap.size w3).drew.alloc (by simp) _).block G hG3).trans HHd.out); have k7c := (cell_of_row _ _ 0 _ _ _ h7G).trans (show _ = some (Value.slice Av o.held.length cv) from rfl); have k7f := frozen_of_row w7 G 0 _ _ h7G)
      all_goals exact HRest.out _ _ _ ⟨hc7, hg7⟩
    · rintro A7 c7 w7 ⟨hc7, hg7⟩
      have hGw := HS.out.lt
      have hcw : ∀ b, cutB (.slice Av o.held.length cv) = some b → M b ∧ b < w.heap.size := HS.out.ltB
      have hzw : w.heap.size ≤ w2.heap.size := by omega
      have hz3 : (w3.alloc (Obj.cells (List.toArray [.int .i64 (o.as f).kind, .int .i64 (o.as f).seq, .int .i64 (o.as f).got, .int .i64 (o.as f).stream, .int .i64 (o.as f).amount, .int .i64 (o.as f).code, .string (o.as f).who, .string (o.as f).name, .float .f64 (o.as f).weight, .slice A2 (o.as f).bytes.length k2, .int .i64 (sizeF (o.as f) : Nat)]) 92)).drew.heap.size = w3.heap.size + 1 := by simp
      have hcn : ∀ b, cutB (.slice A7 (o.held.length + 1) c7) = some b → b < w.heap.size ∧ cutB (.slice Av o.held.length cv) = some b ∨ w3.heap.size + 1 ≤ b := fun b e => by
        rcases hg7.at_ with h1 | ⟨b', h1, h2⟩
        · rw [h1] at e
          exact .inl ⟨(hcw b e).2, e⟩
        · rw [h1] at e
          injection e with e
          rw [hz3] at h2
          exact .inr (by omega)
      have h7 : ∀ k, k < w3.heap.size → some k ≠ cutB (.slice Av o.held.length cv) → w7.heap[k]? = w3.heap[k]? := fun k hk hn => (hg7.by_.block k (by rw [hz3]; omega) hn).trans (((Below.refl w3.heap.size w3).drew.alloc (by simp) _).block k hk)
      have h7G : w7.heap[G]? = some (.cells #[.slice Av o.held.length cv, .int .i64 (o.acked : Nat), .int .i64 (o.bytes : Nat)] 88 (0, 0)) := (h7 G hG3 (fun e => HNe.out e.symm)).trans HHd.out
      have hz7 : w3.heap.size + 1 ≤ w7.heap.size := by have := hg7.by_.size; rw [hz3] at this; exact this
      obtain ⟨w8, hw8⟩ : ∃ W, W = w7.setCell ⟨G, 0, none⟩ (.slice A7 (o.held.length + 1) c7) := ⟨_, rfl⟩
      have h8G : w8.heap[G]? = some (.cells #[.slice A7 (o.held.length + 1) c7, .int .i64 (o.acked : Nat), .int .i64 (o.bytes : Nat)] 88 (0, 0)) := by rw [hw8]; exact heap_setCell_same _ _ 0 _ _ _ h7G
      have hs8 : w8.heap.size = w7.heap.size := by rw [hw8, World.size_setCell]
      have h8 : ∀ k, k ≠ G → w8.heap[k]? = w7.heap[k]? := fun k hk => by rw [hw8]; exact heap_setCell_other _ _ _ _ hk
      have h8K : w8.heap[w2.heap.size]? = some (.cells (List.toArray [.int .i64 (o.as f).kind, .int .i64 (o.as f).seq, .int .i64 (o.as f).got, .int .i64 (o.as f).stream, .int .i64 (o.as f).amount, .int .i64 (o.as f).code, .string (o.as f).who, .string (o.as f).name, .float .f64 (o.as f).weight, .slice A2 (o.as f).bytes.length k2, .int .i64 (sizeF (o.as f) : Nat)]) 92 (0, 0)) := (h8 _ (by omega)).trans ((h7 _ hw3' (fun e => by have := (hcw _ e.symm).2; omega)).trans HHh3.out)
      have hc8 : CutAt M w8 11 (.slice A7 (o.held.length + 1) c7) (o.held.length + 1) (cs ++ [.int .i64 (o.as f).kind, .int .i64 (o.as f).seq, .int .i64 (o.as f).got, .int .i64 (o.as f).stream, .int .i64 (o.as f).amount, .int .i64 (o.as f).code, .string (o.as f).who, .string (o.as f).name, .float .f64 (o.as f).weight, .slice A2 (o.as f).bytes.length k2, .int .i64 (sizeF (o.as f) : Nat)]) := hc7.move (by omega) (fun b e => h8 b (by rcases hcn b e with ⟨h, h'⟩ | h; exact fun e => HNe.out (by rw [h', e]); omega))
      have HCh8 := Lib.hid (show Chg (OutS G (.slice Av o.held.length cv)) w w8 by
        rw [hw8]
        exact (((Chg.of_below (S := OutS G (.slice Av o.held.length cv)) (HB3.out.trans ((((Below.refl w3.heap.size w3).drew.alloc (by simp) _)).mono HB3.out.size))).trans (Chg.of_grown (S := fun i => some i = cutB (.slice Av o.held.length cv)) hg7.by_ (fun i e => e)) (fun i _ e => .inr e))).setCell _ (.inl rfl))
      have HC8 := Lib.hid hc8
      have H8 := Lib.hid (fun (k : Nat) (hk : k < w3.heap.size) (hG : k ≠ G) (hn : some k ≠ cutB (.slice Av o.held.length cv)) => (h8 k hG).trans (h7 k hk hn))
      have HCn := Lib.hid hcn
      have HCw := Lib.hid hcw
      have HG8 := Lib.hid h8G
      have HW8 := Lib.hid hw8.symm
      have HAt := Lib.hid hg7.at_
      have b0 := (cell_of_row _ _ 0 _ _ _ h8G).trans (show _ = some (Value.slice A7 (o.held.length + 1) c7) from rfl)
      have b2 := (cell_of_row _ _ 2 _ _ _ h8G).trans (show _ = some (Value.int .i64 (o.bytes : Nat)) from rfl)
      have bf := fun i => frozen_of_row w8 G i _ _ h8G
      obtain ⟨q0, q1, q2, q3, q4, q5, q6, q7, q8, q9, q10⟩ := cells11 h8K
      have hG8 : G < w8.heap.size := by omega
      have hK8 : w2.heap.size < w8.heap.size := by omega
      have hGK : G ≠ w2.heap.size := by omega
      have hGK2 : w2.heap.size ≠ G := by omega
      have hok := Ro.may_ok HM.out
      have hbs := hok.2.2
      have hsz := sizeF_in hok.1
      have j1 : IntKind.i64.wrap ((o.bytes : Int) + (sizeF (o.as f) : Int)) = (o.bytes : Int) + (sizeF (o.as f) : Int) := IntWalk.i64_in _ (by omega)
      clear hg7 hc7 h7 h7G h8G h8 h8K hc8 hcn hcw hw8 y0 y1 y2 y3 y4 y5 y6 y7 y8 y9 y10 g0 g2 gf hok
      rw [HW8.out]
      go_wp2_with fail
      refine region_tail 6 (by kernel_rfl) (by kernel_rfl) ?_
      simp only [List.take_succ_cons, List.take_zero, List.drop_succ_cons, List.drop_zero]
      repeat still_step
      refine wpStill_nil ?_
      go_wp2_with fail
      have hS1 := HS1.out
      obtain ⟨w9, hw9⟩ : ∃ W, W = (w8.setCell ⟨G, 2, none⟩ (.int .i64 ((o.bytes : Int) + (sizeF (o.as f) : Int)))).drew := ⟨_, rfl⟩
      have h9 : ∀ k, k ≠ G → w9.heap[k]? = w8.heap[k]? := fun k hk => by rw [hw9]; exact heap_setCell_other w8 _ _ _ hk
      have h9G : w9.heap[G]? = some (.cells #[.slice A7 (o.held.length + 1) c7, .int .i64 (o.acked : Nat), .int .i64 ((o.bytes : Int) + (sizeF (o.as f) : Int))] 88 (0, 0)) := by rw [hw9]; exact heap_setCell_same w8 _ 2 _ _ _ HG8.out
      have hs9 : w9.heap.size = w8.heap.size := by rw [hw9]; exact World.size_setCell _ _ _
      have HCh9 := Lib.hid (show Chg (OutS G (.slice Av o.held.length cv)) w w9 by
        rw [hw9]
        have h := HCh8.out.setCell (p := ⟨G, 2, none⟩) (.int .i64 ((o.bytes : Int) + (sizeF (o.as f) : Int))) (.inl rfl)
        exact ⟨h.os, h.tape, h.output, h.size, h.block⟩)
      have hold : ∀ k, k < w3.heap.size → k ≠ G → some k ≠ cutB (.slice Av o.held.length cv) → w9.heap[k]? = w3.heap[k]? := fun k hk hG hn => (h9 k hG).trans (H8.out k hk hG hn)
      have hncw : ∀ k, w.heap.size ≤ k → some k ≠ cutB (.slice Av o.held.length cv) := fun k hk e => by have := (HCw.out k e.symm).2; omega
      have hr9 := HR3.out.move (w' := w9) (fun k hk => hold k (by omega) (by omega) (hncw k (by omega)))
      have hk9 : w9.heap[w.heap.size + 1]? = some (.cells (frCs (Fr.of 0) none 0) 33 (0, 0)) := (hold _ (by omega) (by omega) (hncw _ (by omega))).trans HK3.out
      have hz9 : w3.heap.size + 1 ≤ w9.heap.size := by omega
      have HTo := Lib.hid (told_any w9 (o.as f) A2 k2 (hr9.mono (fun k hk => by omega)) hbl)
      have HW9 := Lib.hid hw9.symm
      have H9 := Lib.hid h9
      have H9G := Lib.hid h9G
      have HOld := Lib.hid hold
      have HR9 := Lib.hid hr9
      have HK9 := Lib.hid hk9
      have HCu9 := Lib.hid (HC8.out.move (w' := w9) (by omega) (fun b e => h9 b (by rcases HCn.out b e with ⟨h, h'⟩ | h; exact fun e => HNe.out (by rw [h', e]); omega)))
      clear h9 h9G hold hr9 hk9 hw9 b0 b2 bf q0 q1 q2 q3 q4 q5 q6 q7 q8 q9 q10
      rw [HW9.out]
      refine HTo.out.mono ?_
      rintro e w10 ⟨hb10, A10, c10, rfl, hr10⟩
      have hk10 := (hb10.block (w.heap.size + 1) (by omega)).trans HK9.out
      have hz10 := hb10.size
      have hP10 : w.heap.size + 1 < w10.heap.size := by omega
      obtain ⟨d0, d1, d2, d3, d4, d5, d6, d7, d8, d9⟩ := FrC.of_heap hk10
      have hfk : ∀ j, w10.frozen? ⟨w.heap.size + 1, j, none⟩ = false := fun j => frozen_of_row w10 (w.heap.size + 1) j _ _ hk10
      have HB10 := Lib.hid hb10
      have HK10 := Lib.hid hk10
      have HR10 := Lib.hid hr10
      clear hb10 hk10 hr10
      unfold frV
      go_wp2_with fail
      have hlen : (o.push f).held.length = o.held.length + 1 := by simp [Ro.push]
      have hE : ∀ k, k ≠ w.heap.size + 1 → (w10.setCells (w.heap.size + 1) 0 (frCs (o.as f) A10 c10).toList).heap[k]? = w10.heap[k]? := fun k hk => setCells_other _ _ _ _ hk
      have hsE : (w10.setCells (w.heap.size + 1) 0 (frCs (o.as f) A10 c10).toList).heap.size = w10.heap.size := (tape_setCells _ _ _ _).2
      have hE9 : ∀ k, k < w9.heap.size → k ≠ w.heap.size + 1 → (w10.setCells (w.heap.size + 1) 0 (frCs (o.as f) A10 c10).toList).heap[k]? = w9.heap[k]? := fun k hk hn => (hE k hn).trans (HB10.out.block k hk)
      have hch := chg_setCells w10 (w.heap.size + 1) 0 (frCs (o.as f) A10 c10).toList
      have hcl := HCu9.out.lt
      clear d0 d1 d2 d3 d4 d5 d6 d7 d8 d9 hfk
      refine push_ret (Q := PushP es M w G (.slice Av o.held.length cv) o f) (g := o.as f) (A := A10) (K := c10) (B := w.heap.size + 1) HK10.out rfl rfl ?_
      unfold PushP
      rw [HM.out]
      generalize w10.setCells (w.heap.size + 1) 0 (frCs (o.as f) A10 c10).toList = wE at *
      refine ⟨A10, c10, .slice A7 (o.held.length + 1) c7, rfl, ?_, ⟨?_, ⟨cs ++ ktCs (o.as f) A2 k2, ?_, ?_⟩, hbG, ?_⟩, ?_, ?_⟩
      · refine (HR10.out.move (fun k hk => hE k (by omega))).mono (fun k hk => ⟨by omega, by omega, ?_⟩)
        rintro (e | e)
        · omega
        · have := (hcl k e.symm).2
          omega
      · rw [hE9 G (by omega) (by omega), H9G.out]
        have h1 : (((o.push f).bytes : Nat) : Int) = (o.bytes : Int) + (sizeF (o.as f) : Int) := by rw [Ro.push_bytes]; omega
        rw [h1]
        rfl
      · rw [hlen]
        exact HCu9.out.move (by omega) (fun b e => hE9 b (hcl b e).2 (by rcases HCn.out b e with ⟨h, _⟩ | h <;> omega))
      · refine KtsV.snoc ((HKts.out.move (fun k hk => ?_)).mono (fun k hk => ⟨hk.1, by omega, ?_⟩)) ((HR9.out.move (fun k hk => hE9 k (by omega) (by omega))).mono (fun k hk => ⟨HM0.out k (by omega), by omega, ?_⟩))
        · exact (hE9 k (by omega) (by omega)).trans ((HOld.out k (by omega) (fun e => hk.2.2 (.inl e)) (fun e => hk.2.2 (.inr e))).trans (HB3.out.block k hk.2.1))
        · rintro (e | e)
          · exact hk.2.2 (.inl e)
          · rcases HCn.out k e.symm with ⟨_, h⟩ | h
            · exact hk.2.2 (.inr h.symm)
            · omega
        · rintro (e | e)
          · omega
          · rcases HCn.out k e.symm with ⟨h, _⟩ | h <;> omega
      · intro e
        rcases HCn.out G e with ⟨_, h⟩ | h
        · exact HNe.out h
        · omega
      · exact (HCh9.out.trans (Chg.of_below (S := OutS G (.slice Av o.held.length cv)) HB10.out) (fun i _ e => e)).trans hch (fun i hi e => by omega)
      · rcases HAt.out with h | ⟨b, h, hb⟩
        · exact .inl h
        · exact .inr ⟨b, h, by simp at hb; omega⟩
end Go.Proofs.YtipgimmgjdgdeaaDoor
