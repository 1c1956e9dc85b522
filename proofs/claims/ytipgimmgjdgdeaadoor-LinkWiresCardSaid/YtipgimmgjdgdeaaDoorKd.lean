/- Walks of package link: Send. -/
import Derived.Test.YtipgimmgjdgdeaaDoorKb
import Derived.StillTailTactics
set_option linter.unusedVariables false
set_option linter.unusedSimpArgs false
set_option linter.unnecessarySimpa false
namespace Go.Proofs.YtipgimmgjdgdeaaDoor
open Go.RowKit
attribute [local go_sem] run_store_flt

/-- What Send answers; what the link is behind it. -/
def SendP (es : Er → Addr) (M : Nat → Prop) (w : World) (L G I : Nat) (v vw : Value) (m : Lk) (f : Fr) (e : Ending) (w' : World) : Prop :=
  match m.o.may f with
  | some er => e = .returned (.tuple #[frV (Fr.of 0) none 0, errV (es er)]) ∧ Below w.heap.size w w'
  | none => ∃ A c v' vw', e = .returned (.tuple #[frV (m.o.as f) A c, .nilIface]) ∧ LinkAt M w' L G I v' vw' (m.push f) ∧ Chg (LinkB L G I v vw) w w' ∧ (∀ k, LinkB L G I v' vw' k → LinkB L G I v vw k ∨ w.heap.size ≤ k) ∧ RdC (fun k => w.heap.size ≤ k ∧ k < w'.heap.size ∧ ¬ LinkB L G I v' vw' k) w' A (bvs f.bytes)
theorem SendP.ok {es : Er → Addr} {M : Nat → Prop} {w w' : World} {L G I : Nat} {v vw : Value} {m : Lk} {f : Fr} {e : Ending} (h : SendP es M w L G I v vw m f e w') (hm : m.o.may f = none) : ∃ A c v' vw', e = .returned (.tuple #[frV (m.o.as f) A c, .nilIface]) ∧ LinkAt M w' L G I v' vw' (m.push f) ∧ Chg (LinkB L G I v vw) w w' ∧ (∀ k, LinkB L G I v' vw' k → LinkB L G I v vw k ∨ w.heap.size ≤ k) ∧ RdC (fun k => w.heap.size ≤ k ∧ k < w'.heap.size ∧ ¬ LinkB L G I v' vw' k) w' A (bvs f.bytes) := by
  unfold SendP at h
  rw [hm] at h
  exact h
theorem SendP.er {es : Er → Addr} {M : Nat → Prop} {w w' : World} {L G I : Nat} {v vw : Value} {m : Lk} {f : Fr} {e : Ending} {er : Er} (h : SendP es M w L G I v vw m f e w') (hm : m.o.may f = some er) : e = .returned (.tuple #[frV (Fr.of 0) none 0, errV (es er)]) ∧ Below w.heap.size w w' := by
  unfold SendP at h
  rw [hm] at h
  exact h
theorem cutW {F G : World → Prop} {R : Prop} (h1 : (∀ W, F W → G W) → R) (h2 : ∀ W, F W → G W) : R := h1 h2
theorem send_ret {Q : Ending → World → Prop} {W3 : World} {g : Fr} {A : Option Addr} {K B : Nat} {tmps : Array Value} (h0 : W3.heap[B]? = some (.cells (frCs (Fr.of 0) none 0) 33 (0, 0)))
    (ht : tmps[4]? = some (.pointer (some ⟨B, 0, none⟩))) (h5 : tmps[5]? = some .nilIface) (hR : Q (.returned (.tuple #[frV g A K, .nilIface])) (W3.setCells B 0 (frCs g A K).toList)) :
    bodyPost Tryd.prog Tryd.f39 Q .ret { tmps := tmps, defers := [] } (W3.setCells B 0 (frCs g A K).toList) := by
  have hfin : (W3.setCells B 0 (frCs g A K).toList).heap[B]? = some (.cells (frCs g A K) 33 (0, 0)) := by
    have := heap_setAll (frCs g A K).toList h0 rfl
    simpa using this
  obtain ⟨d0, d1, d2, d3, d4, d5, d6, d7, d8, d9⟩ := FrC.of_heap hfin
  generalize W3.setCells B 0 (frCs g A K).toList = W' at *
  refine bodyPost_ret (v := .tuple #[frV g A K, .nilIface]) ?_ rfl hR
  simp [results, Tryd.results39, go_sem, ht, h5, d0, d1, d2, d3, d4, d5, d6, d7, d8, d9, frV]
set_option maxRecDepth 8000 in
set_option maxHeartbeats 6400000 in
theorem send_any (es : Er → Addr) (M : Nat → Prop) (w : World) (L G I : Nat) (v vw : Value) (m : Lk) (f : Fr) (A : Option Addr) (c : Nat) (w0 : World) (hE0 : REnv w0 es) (h0 : Below w0.heap.size w0 w) (hMb : ∀ k, M k → w0.heap.size ≤ k) (s : LinkAt M w L G I v vw m) (hf : m.fine) (hl : f.lens) (hA : RdC (· < w.heap.size) w A (bvs f.bytes)) (hbl : f.bytes.length ≤ 100000000000000) (hM : ∀ k, w.heap.size ≤ k → M k) :
    Calls Tryd.prog 39 #[.pointer (some ⟨L, 0, none⟩), frV f A c] w (SendP es M w L G I v vw m f) := by
  have hE := hE0.step h0
  have HE0 := Lib.hid hE0
  have H0 := Lib.hid h0
  have HMb := Lib.hid hMb
  clear hE0 h0 hMb
  obtain ⟨w1, hw1⟩ : ∃ W, W = (w.alloc (Obj.cells (frCs f A c) 33)).alloc (Obj.cells (frCs (Fr.of 0) none 0) 33) := ⟨_, rfl⟩
  have hb0 : Below w.heap.size w (w.alloc (Obj.cells (frCs f A c) 33)) := below_box _ _
  have hb1 : Below w.heap.size w w1 := by rw [hw1]; exact hb0.alloc hb0.size _
  have hh : w1.heap[w.heap.size]? = some (.cells (frCs f A c) 33 (0, 0)) := by
    rw [hw1]
    exact ((below_box (w.alloc (Obj.cells (frCs f A c) 33)) (Obj.cells (frCs (Fr.of 0) none 0) 33)).block w.heap.size (by simp)).trans (heap_alloc_new _ _)
  have hk : w1.heap[w.heap.size + 1]? = some (.cells (frCs (Fr.of 0) none 0) 33 (0, 0)) := by
    rw [hw1]
    have := heap_alloc_new (w.alloc (Obj.cells (frCs f A c) 33)) (Obj.cells (frCs (Fr.of 0) none 0) 33)
    simpa using this
  have hs1 : w1.heap.size = w.heap.size + 1 + 1 := by rw [hw1]; simp
  have s1 : LinkAt (fun k => M k ∧ k ≠ w.heap.size ∧ k ≠ w.heap.size + 1) w1 L G I v vw m := (s.more (M' := fun k => M k ∧ k ≠ w.heap.size ∧ k ≠ w.heap.size + 1) (fun k hk h => ⟨h, by omega, by omega⟩)).on hb1
  have HE := Lib.hid hE
  have HS := Lib.hid s
  have HS1 := Lib.hid s1
  have HFn := Lib.hid hf
  have HLn := Lib.hid hl
  have HA := Lib.hid hA
  have HB1 := Lib.hid hb1
  have HH1 := Lib.hid hh
  have HK1 := Lib.hid hk
  have HZ1 := Lib.hid hs1
  have HW1 := Lib.hid hw1.symm
  have HM := Lib.hid hM
  have g0 := s1.c0
  obtain ⟨d0, d1, d2, d3, d4, d5, d6, d7, d8, d9⟩ := FrC.of_heap hh
  have hP1 : w.heap.size < w1.heap.size := by omega
  clear hA hb1 hh hk hb0 hw1 hs1 hE s s1 hf hl hM
  unfold frV
  simp only [frCs, Fr.of, noS, List.length_nil] at HW1
  go_enter Tryd.func39, Tryd.ntmps39
  go_wp2_with (rw [HW1.out])
  have hb1 : Below w.heap.size w w1.drew := HB1.out.drew
  have s1 : LinkAt (fun k => M k ∧ k ≠ w.heap.size ∧ k ≠ w.heap.size + 1) w1.drew L G I v vw m := HS1.out.on (Below.refl _ _).drew
  have hzd : w1.drew.heap.size = w.heap.size + 1 + 1 := HZ1.out
  have hhd : w1.drew.heap[w.heap.size]? = some (.cells (frCs f A c) 33 (0, 0)) := HH1.out
  have hkd : w1.drew.heap[w.heap.size + 1]? = some (.cells (frCs (Fr.of 0) none 0) 33 (0, 0)) := HK1.out
  have hM1 : ∀ k, w1.drew.heap.size ≤ k → LkO (fun k => M k ∧ k ≠ w.heap.size ∧ k ≠ w.heap.size + 1) L I vw k := fun k hk => ⟨⟨HM.out k (by omega), by omega, by omega⟩, by have := s1.lt; omega, by have := s1.ltI; omega, fun e => by have := s1.ltW k e.symm; omega⟩
  have HPu := Lib.hid (push_any es _ w1.drew G v m.o f A c (HE.out.step hb1) s1.out HFn.out.o HLn.out (HA.out.step hb1) hbl hM1)
  have HBd := Lib.hid hb1
  have HSd := Lib.hid s1
  have HHd := Lib.hid hhd
  have HKd := Lib.hid hkd
  have HZd := Lib.hid hzd
  clear hb1 s1 hzd hhd hkd hM1
  unfold frV at HPu
  cases hm : m.o.may f with
  | some er =>
    have HM2 := Lib.hid hm
    have HPu2 := Lib.hid (HPu.out.mono fun e w' h => h.er hm)
    clear hm HPu
    unfold frV at HPu2
    apply cutW (F := fun w3 => ∃ w2, Below w1.drew.heap.size w1.drew w2 ∧ w3 = w2.setCells w.heap.size 0 (frCs (Fr.of 0) none 0).toList)
    · intro hrest
      have HRest := Lib.hid hrest
      clear hrest
      go_region_law (go_simp; refine HPu2.out.mono ?_; rintro e w2 ⟨rfl, hb2⟩; have hh2 := (hb2.block w.heap.size (by have := HZd.out; omega)).trans HHd.out; (obtain ⟨e0, e1, e2, e3, e4, e5, e6, e7, e8, e9⟩ := FrC.of_heap hh2); have hfz : ∀ j, w2.frozen? ⟨w.heap.size, j, none⟩ = false := (fun j => frozen_of_row w2 w.heap.size j _ _ hh2); simp only [Fr.of, noS, List.length_nil, errV])
      all_goals exact HRest.out _ ⟨w2, hb2, rfl⟩
    · rintro w3 ⟨w2, hb2, rfl⟩
      have hb2' : Below w.heap.size w w2 := below_on HBd.out hb2
      have hk2 := (hb2.block (w.heap.size + 1) (by have := HZd.out; omega)).trans HKd.out
      obtain ⟨w3, hw3⟩ : ∃ W, W = w2.setCells w.heap.size 0 (frCs (Fr.of 0) none 0).toList := ⟨_, rfl⟩
      have hb3 : Below w.heap.size w w3 := by rw [hw3]; exact below_setCells _ _ (Nat.le_refl _) _ _ _ hb2'
      have hk3 : w3.heap[w.heap.size + 1]? = some (.cells (frCs (Fr.of 0) none 0) 33 (0, 0)) := by rw [hw3, setCells_other _ _ _ _ (by omega)]; exact hk2
      have hP3 : w.heap.size + 1 < w3.heap.size := (Array.getElem?_eq_some_iff.1 hk3).1
      rw [← hw3]
      have HB3 := Lib.hid hb3
      obtain ⟨d0, d1, d2, d3, d4, d5, d6, d7, d8, d9⟩ := FrC.of_heap hk3
      have hfk : ∀ j, w3.frozen? ⟨w.heap.size + 1, j, none⟩ = false := fun j => frozen_of_row w3 (w.heap.size + 1) j _ _ hk3
      have s0 : w3.setCell ⟨w.heap.size + 1, 0, none⟩ (.int .i64 0) = w3 := setCell_id' hk3 rfl
      have s1 : w3.setCell ⟨w.heap.size + 1, 1, none⟩ (.int .i64 0) = w3 := setCell_id' hk3 rfl
      have s2 : w3.setCell ⟨w.heap.size + 1, 2, none⟩ (.int .i64 0) = w3 := setCell_id' hk3 rfl
      have s3 : w3.setCell ⟨w.heap.size + 1, 3, none⟩ (.int .i64 0) = w3 := setCell_id' hk3 rfl
      have s4 : w3.setCell ⟨w.heap.size + 1, 4, none⟩ (.int .i64 0) = w3 := setCell_id' hk3 rfl
      have s5 : w3.setCell ⟨w.heap.size + 1, 5, none⟩ (.int .i64 0) = w3 := setCell_id' hk3 rfl
      have s6 : w3.setCell ⟨w.heap.size + 1, 6, none⟩ (.string ⟨#[]⟩) = w3 := setCell_id' hk3 rfl
      have s7 : w3.setCell ⟨w.heap.size + 1, 7, none⟩ (.string ⟨#[]⟩) = w3 := setCell_id' hk3 rfl
      have s8 : w3.setCell ⟨w.heap.size + 1, 8, none⟩ (.float .f64 0) = w3 := setCell_id' hk3 rfl
      have s9 : w3.setCell ⟨w.heap.size + 1, 9, none⟩ (.slice none 0 0) = w3 := setCell_id' hk3 rfl
      clear hb2 hb2' hk2 hw3 hb3
      go_wp2_with fail
      clear s0 s1 s2 s3 s4 s5 s6 s7 s8 s9
      exact bodyPost_ret (v := .tuple #[frV (Fr.of 0) none 0, errV (es er)]) (by simp [results, Tryd.results39, go_sem, frV, Fr.of, noS, errV, hP3, d0, d1, d2, d3, d4, d5, d6, d7, d8, d9]) rfl (by unfold SendP; rw [HM2.out]; exact ⟨rfl, HB3.out⟩)
  | none =>
    have HM2 := Lib.hid hm
    have HPu2 := Lib.hid (HPu.out.mono fun e w' h => h.ok hm)
    have hnG : ¬ OutS G v w.heap.size := fun e => by
      rcases e with e | e
      · exact HSd.out.out.le.1.2.1 e.symm
      · exact (HSd.out.out.ltB _ e.symm).1.1.2.1 rfl
    have hnG1 : ¬ OutS G v (w.heap.size + 1) := fun e => by
      rcases e with e | e
      · exact HSd.out.out.le.1.2.2 e.symm
      · exact (HSd.out.out.ltB _ e.symm).1.1.2.2 rfl
    clear hm HPu
    apply cutR (F := fun A2 c2 w3 => ∃ w2 v2, RdC (fun k => w1.drew.heap.size ≤ k ∧ k < w2.heap.size ∧ ¬ OutS G v2 k) w2 A2 (bvs f.bytes) ∧ OutAt (LkO (fun k => M k ∧ k ≠ w.heap.size ∧ k ≠ w.heap.size + 1) L I vw) w2 G v2 (m.o.push f) ∧ Chg (OutS G v) w1.drew w2 ∧ (cutB v2 = cutB v ∨ ∃ b, cutB v2 = some b ∧ w1.drew.heap.size ≤ b) ∧ w3 = w2.setCells w.heap.size 0 (frCs (m.o.as f) A2 c2).toList)
    · intro hrest
      have HRest := Lib.hid hrest
      clear hrest
      go_region_law (go_simp; refine HPu2.out.mono ?_; rintro e w2 ⟨A2, c2, v2, rfl, hr2, ho2, hch2, hcut2⟩; have hh2 := (hch2.block w.heap.size (by have := HZd.out; omega) hnG).trans HHd.out; (obtain ⟨e0, e1, e2, e3, e4, e5, e6, e7, e8, e9⟩ := FrC.of_heap hh2); have hfz : ∀ j, w2.frozen? ⟨w.heap.size, j, none⟩ = false := (fun j => frozen_of_row w2 w.heap.size j _ _ hh2); unfold frV)
      all_goals exact HRest.out _ _ _ ⟨w2, v2, hr2, ho2, hch2, hcut2, rfl⟩
    · rintro A2 c2 w3 ⟨w2, v2, hr2, ho2, hch2, hcut2, hw3⟩
      have hz2 := hch2.size
      have hZd := HZd.out
      have hh2 := (hch2.block w.heap.size (by omega) hnG).trans HHd.out
      have hk2 := (hch2.block (w.heap.size + 1) (by omega) hnG1).trans HKd.out
      have hh3 : w3.heap[w.heap.size]? = some (.cells (frCs (m.o.as f) A2 c2) 33 (0, 0)) := by
        rw [hw3]
        have := heap_setAll (frCs (m.o.as f) A2 c2).toList hh2 rfl
        simpa using this
      have hk3 : w3.heap[w.heap.size + 1]? = some (.cells (frCs (Fr.of 0) none 0) 33 (0, 0)) := by rw [hw3, setCells_other _ _ _ _ (by omega)]; exact hk2
      have hs3 : w3.heap.size = w2.heap.size := by rw [hw3]; exact (tape_setCells _ _ _ _).2
      have hs2 : LinkAt (fun k => M k ∧ k ≠ w.heap.size ∧ k ≠ w.heap.size + 1) w2 L G I v2 vw { m with o := m.o.push f } := HSd.out.outs hch2 ho2 rfl rfl rfl rfl rfl
      have hS3 : LinkAt (fun k => M k ∧ k ≠ w.heap.size ∧ k ≠ w.heap.size + 1) w3 L G I v2 vw { m with o := m.o.push f } := hs2.move (by omega) (fun i hi _ => by rw [hw3]; exact setCells_other _ _ _ _ hi.2.1)
      have hcw : Chg (LinkB L G I v vw) w w3 := by
        have h1 : Chg (LinkB L G I v vw) w w2 := (Chg.of_below HBd.out).trans hch2 (fun i _ e => .inr (.inr (.inl e)))
        rw [hw3]
        exact h1.trans (chg_setCells w2 _ _ _) (fun i hi e => by omega)
      have hr3 : RdC (fun k => w.heap.size + 1 + 1 ≤ k ∧ k < w3.heap.size ∧ ¬ OutS G v2 k) w3 A2 (bvs f.bytes) := (hr2.move (w' := w3) (fun k hk => by rw [hw3]; exact setCells_other _ _ _ _ (by omega))).mono (fun k hk => ⟨by omega, by omega, hk.2.2⟩)
      have hbb : ∀ k, LinkB L G I v2 vw k → LinkB L G I v vw k ∨ w.heap.size ≤ k := fun k hk => by
        rcases hk with h | h | h | h
        · exact .inl (.inl h)
        · exact .inl (.inr (.inl h))
        · rcases h with h | h
          · exact .inl (.inr (.inr (.inl (.inl h))))
          · rcases hcut2 with e | ⟨b, e, hb⟩
            · exact .inl (.inr (.inr (.inl (.inr (by rw [h, e])))))
            · rw [e] at h; injection h with h; exact .inr (by omega)
        · exact .inl (.inr (.inr (.inr h)))
      have hS := HS.out
      have hE3 : REnv w3 es := HE0.out.step (H0.out.trans (hcw.below H0.out.size (fun i hi e => HMb.out i (hS.inB i e).1)))
      have HE3 := Lib.hid hE3
      have HS3 := Lib.hid hS3
      have HK3 := Lib.hid hk3
      have HCw := Lib.hid hcw
      have HR3 := Lib.hid hr3
      have HBb := Lib.hid hbb
      have HH3 := Lib.hid hh3
      have hP3 : w.heap.size < w3.heap.size := by omega
      have hP3' : w.heap.size + 1 < w3.heap.size := by omega
      have hz3 : w.heap.size + 1 + 1 ≤ w3.heap.size := by omega
      have g0 := hS3.c3
      obtain ⟨d0, d1, d2, d3, d4, d5, d6, d7, d8, d9⟩ := FrC.of_heap hh3
      have hsL := hS.lt
      have hsI := hS.ltI
      have hsW := hS.ltW
      clear hr2 ho2 hch2 hcut2 hw3 hz2 hZd hh2 hk2 hh3 hs3 hs2 hE3 hr3 hbb
      cases hup : m.up with
      | false =>
        have HPf := Lib.hid (show m.push f = { m with o := m.o.push f } by simp [Lk.push, hup])
        rw [show ({ m with o := m.o.push f } : Lk).up = m.up from rfl, hup] at g0
        obtain ⟨e0, e1, e2, e3, e4, e5, e6, e7, e8, e9⟩ := FrC.of_heap hk3
        have hfk : ∀ j, w3.frozen? ⟨w.heap.size + 1, j, none⟩ = false := fun j => frozen_of_row w3 (w.heap.size + 1) j _ _ hk3
        clear hup hk3 hS3 hcw
        go_wp2_with fail
        clear d0 d1 d2 d3 d4 d5 d6 d7 d8 d9 e0 e1 e2 e3 e4 e5 e6 e7 e8 e9 hfk g0
        refine send_ret (Q := SendP es M w L G I v vw m f) (g := m.o.as f) (A := A2) (K := c2) (B := w.heap.size + 1) HK3.out rfl rfl ?_
        unfold SendP
        rw [HM2.out]
        have hsz : (w3.setCells (w.heap.size + 1) 0 (frCs (m.o.as f) A2 c2).toList).heap.size = w3.heap.size := (tape_setCells _ _ _ _).2
        have hot : ∀ k, k ≠ w.heap.size + 1 → (w3.setCells (w.heap.size + 1) 0 (frCs (m.o.as f) A2 c2).toList).heap[k]? = w3.heap[k]? := fun k hk => setCells_other _ _ _ _ hk
        have hch := chg_setCells w3 (w.heap.size + 1) 0 (frCs (m.o.as f) A2 c2).toList
        generalize w3.setCells (w.heap.size + 1) 0 (frCs (m.o.as f) A2 c2).toList = wE at *
        refine ⟨A2, c2, v2, vw, rfl, ?_, HCw.out.trans hch (fun i hi e => by omega), HBb.out, ?_⟩
        · rw [HPf.out]
          exact (HS3.out.move (by omega) (fun i hi _ => hot i hi.2.2)).more (fun k _ h => h.1)
        · refine (HR3.out.move (fun k hk => hot k (by omega))).mono (fun k hk => ⟨by omega, by omega, fun e => ?_⟩)
          rcases e with e | e | e | e
          · omega
          · omega
          · exact hk.2.2 e
          · have := hsW k e.symm; omega
      | true =>
        have HPf := Lib.hid (show m.push f = { m with o := m.o.push f, wire := m.wire ++ wireF (m.o.as f) } by simp [Lk.push, hup])
        have hwr := write_any es (fun k => M k ∧ k ≠ w.heap.size ∧ k ≠ w.heap.size + 1) w3 L G I v2 vw { m with o := m.o.push f } (m.o.as f) A2 c2 HE3.out HS3.out ⟨HLn.out.who, HLn.out.name, HLn.out.bytes⟩ (HR3.out.mono (ok' := (· < w3.heap.size)) (fun k hk => hk.2.1)) (fun k hk => ⟨HM.out k (by omega), by omega, by omega⟩) HFn.out.wire
        have HWr := Lib.hid hwr
        rw [show ({ m with o := m.o.push f } : Lk).up = m.up from rfl, hup] at g0
        clear hup hk3 hS3 hcw hwr
        unfold frV at HWr
        go_wp2_with fail
        refine HWr.out.mono ?_
        rintro e w4 ⟨rfl, v4, vw4, hS4, hch4, hb4⟩
        have hz4 := hch4.size
        have hn0 : ¬ LinkB L G I v2 vw w.heap.size := fun e => (HS3.out.inB _ e).1.2.1 rfl
        have hn1 : ¬ LinkB L G I v2 vw (w.heap.size + 1) := fun e => (HS3.out.inB _ e).1.2.2 rfl
        have hh4 := (hch4.block w.heap.size hP3 hn0).trans HH3.out
        have hk4 := (hch4.block (w.heap.size + 1) hP3' hn1).trans HK3.out
        have HS4 := Lib.hid hS4
        have HCh4 := Lib.hid hch4
        have HB4 := Lib.hid hb4
        have HK4 := Lib.hid hk4
        have hP4 : w.heap.size < w4.heap.size := by omega
        have hP4' : w.heap.size + 1 < w4.heap.size := by omega
        clear d0 d1 d2 d3 d4 d5 d6 d7 d8 d9 g0
        obtain ⟨d0, d1, d2, d3, d4, d5, d6, d7, d8, d9⟩ := FrC.of_heap hh4
        obtain ⟨e0, e1, e2, e3, e4, e5, e6, e7, e8, e9⟩ := FrC.of_heap hk4
        have hfk : ∀ j, w4.frozen? ⟨w.heap.size + 1, j, none⟩ = false := fun j => frozen_of_row w4 (w.heap.size + 1) j _ _ hk4
        clear hS4 hch4 hb4 hh4 hk4
        go_wp2_with fail
        clear d0 d1 d2 d3 d4 d5 d6 d7 d8 d9 e0 e1 e2 e3 e4 e5 e6 e7 e8 e9 hfk
        refine send_ret (Q := SendP es M w L G I v vw m f) (g := m.o.as f) (A := A2) (K := c2) (B := w.heap.size + 1) HK4.out rfl rfl ?_
        unfold SendP
        rw [HM2.out]
        have hsz : (w4.setCells (w.heap.size + 1) 0 (frCs (m.o.as f) A2 c2).toList).heap.size = w4.heap.size := (tape_setCells _ _ _ _).2
        have hot : ∀ k, k ≠ w.heap.size + 1 → (w4.setCells (w.heap.size + 1) 0 (frCs (m.o.as f) A2 c2).toList).heap[k]? = w4.heap[k]? := fun k hk => setCells_other _ _ _ _ hk
        have hch := chg_setCells w4 (w.heap.size + 1) 0 (frCs (m.o.as f) A2 c2).toList
        generalize w4.setCells (w.heap.size + 1) 0 (frCs (m.o.as f) A2 c2).toList = wE at *
        have hnk : ∀ k, w.heap.size + 1 + 1 ≤ k → k < w3.heap.size → ¬ OutS G v2 k → ¬ LinkB L G I v2 vw k := fun k h1 h2 h3 e => by
          rcases e with e | e | e | e
          · omega
          · omega
          · exact h3 e
          · have := hsW k e.symm; omega
        refine ⟨A2, c2, v4, vw4, rfl, ?_, (HCw.out.trans HCh4.out (fun i hi e => by rcases HBb.out i e with h | h; exact h; omega)).trans hch (fun i hi e => by omega), fun k hk => ?_, ?_⟩
        · rw [HPf.out]
          exact (HS4.out.move (by omega) (fun i hi _ => hot i hi.2.2)).more (fun k _ h => h.1)
        · rcases HB4.out k hk with h | h
          · exact HBb.out k h
          · exact .inr (by omega)
        · refine ((HR3.out.move (fun k hk => HCh4.out.block k hk.2.1 (hnk k hk.1 hk.2.1 hk.2.2))).move (fun k hk => hot k (by omega))).mono (fun k hk => ⟨by omega, by omega, fun e => ?_⟩)
          rcases HB4.out k e with h | h
          · exact hnk k hk.1 hk.2.1 hk.2.2 h
          · omega
end Go.Proofs.YtipgimmgjdgdeaaDoor
