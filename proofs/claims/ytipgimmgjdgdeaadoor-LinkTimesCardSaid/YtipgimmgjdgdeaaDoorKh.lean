/- Walks of package link: Take. -/
import Derived.Test.YtipgimmgjdgdeaaDoorKe
set_option linter.unusedVariables false
set_option linter.unusedSimpArgs false
set_option linter.unnecessarySimpa false
namespace Go.Proofs.YtipgimmgjdgdeaaDoor
open Go.RowKit
attribute [local go_sem] run_store_flt

theorem cutH {F G : World → Prop} {R : Prop} (h1 : (∀ W, F W → G W) → R) (h2 : ∀ W, F W → G W) : R := h1 h2
set_option maxRecDepth 8000 in
set_option maxHeartbeats 3200000 in
/-- A link that is down takes nothing. -/
theorem ltake_down (es : Er → Addr) (M : Nat → Prop) (w : World) (L G I : Nat) (v vw : Value) (m : Lk) (f : Fr) (A : Option Addr) (c : Nat) (hE : REnv w es) (s : LinkAt M w L G I v vw m) (hup : m.up = false) :
    Calls Tryd.prog 38 #[.pointer (some ⟨L, 0, none⟩), frV f A c] w (fun e w' => e = .returned (.tuple #[.bool false, errV (es .state)]) ∧ Below w.heap.size w w') := by
  obtain ⟨w1, hw1, hb1, hs1, hf1⟩ := box_world w f A c
  have s1 := s.on hb1
  have g3 := s1.c3
  rw [hup] at g3
  have he := (hE.step hb1).fenv.e3.state.at
  unfold errV at he
  have HB1 := Lib.hid hb1
  have HW1 := Lib.hid hw1.symm
  clear hE hb1 hw1 s s1 hup hs1
  unfold frV
  simp only [frCs] at HW1
  go_enter Tryd.func38, Tryd.ntmps38
  go_wp2_with (rw [HW1.out])
  go_quiet (fail)
  go_wp2_with fail
  go_ret2
  exact ⟨rfl, below_drewN HB1.out _⟩
set_option maxRecDepth 8000 in
set_option maxHeartbeats 3200000 in
/-- An ack lets go of what has come. -/
theorem ltake_ack (es : Er → Addr) (M : Nat → Prop) (w : World) (L G I : Nat) (v vw : Value) (m : Lk) (f : Fr) (A : Option Addr) (c : Nat) (hE : REnv w es) (s : LinkAt M w L G I v vw m) (hf : m.fine) (hl : f.lens) (hA : RdC (· < w.heap.size) w A (bvs f.bytes)) (hup : m.up = true) (hk : f.kind = 6) (hc : checkF f = true) (h1 : f.got ≤ (m.o.last : Int)) (hM : ∀ k, w.heap.size ≤ k → M k) :
    Calls Tryd.prog 38 #[.pointer (some ⟨L, 0, none⟩), frV f A c] w (fun e w' => e = .returned (.tuple #[.bool false, .nilIface]) ∧ LinkT M w L G I v vw { m with o := m.o.ack f.got.toNat } w') := by
  obtain ⟨w1, hw1, hb1, hs1, hf1⟩ := box_world w f A c
  have hgo := ack_got hc hk
  have s1 : LinkAt (fun k => M k ∧ k ≠ w.heap.size) w1 L G I v vw m := (s.more (M' := fun k => M k ∧ k ≠ w.heap.size) (fun k hk h => ⟨h, by omega⟩)).on hb1
  have hck := checkF_any es f A c w1 ((hE.step hb1).fenv) hl (hA.step hb1)
  have HCk := Lib.hid (hck.mono fun e w' h => (show e = .returned .nilIface ∧ Below w1.heap.size w1 w' from ⟨by rw [h.1, hc]; rfl, h.2⟩))
  have g3 := s1.c3
  rw [hup] at g3
  have HE := Lib.hid hE
  have HS := Lib.hid s
  have HS1 := Lib.hid s1
  have HFn := Lib.hid hf
  have HM := Lib.hid hM
  have HB1 := Lib.hid hb1
  have HF1 := Lib.hid hf1
  have HW1 := Lib.hid hw1.symm
  have HK := Lib.hid hk
  obtain ⟨c0, c1, c2, c3, c4, c5, c6, c7, c8, c9⟩ := hf1
  rw [hk] at c0
  have hlt1 : w.heap.size < w1.heap.size := by omega
  clear hE hb1 hw1 s s1 hf hl hA hup hs1 hck hM
  unfold frV at HCk
  unfold frV
  simp only [frCs] at HW1
  rw [hk] at HW1 HCk ⊢
  clear hk hc
  go_enter Tryd.func38, Tryd.ntmps38
  go_wp2_with (rw [HW1.out])
  refine HCk.out.mono ?_
  rintro e w2 ⟨rfl, hb2⟩
  have s2 := HS1.out.on hb2
  have hb2w := below_on HB1.out hb2
  have hF2 := HF1.out.on hlt1 hb2
  clear c0 c1 c2 c3 c4 c5 c6 c7 c8 c9 g3
  obtain ⟨c0, c1, c2, c3, c4, c5, c6, c7, c8, c9⟩ := hF2
  have g0 := s2.c0
  have hs2d := s2.on (Below.refl w2.heap.size w2).drew
  have hak := ack_any es _ w2.drew G v m.o f.got (HE.out.step hb2w.drew) hs2d.out HFn.out.o
  have HAk := Lib.hid (hak.mono fun e w' h => h.1 ⟨hgo.1, h1⟩)
  have HS2 := Lib.hid s2
  have HB2 := Lib.hid hb2w
  have hP2 : w.heap.size < w2.heap.size := by have := hb2.size; omega
  clear hb2 s2 hb2w hs2d hak
  go_wp2_with fail
  apply cutH (F := fun w3 => Chg (· = G) w2.drew w3 ∧ ∃ v3, OutAt (LkO (fun k => M k ∧ k ≠ w.heap.size) L I vw) w3 G v3 (m.o.ack f.got.toNat) ∧ (cutB v3 = cutB v ∨ cutB v3 = none))
  · intro hrest
    have HRest := Lib.hid hrest
    clear hrest
    go_region_law (go_simp; refine HAk.out.mono ?_; rintro e w3 ⟨rfl, hch3, v3, ho3, hcut3⟩)
    all_goals exact HRest.out _ ⟨hch3, v3, ho3, hcut3⟩
  · rintro w3 ⟨hch3, v3, ho3, hcut3⟩
    clear c0 c1 c2 c3 c4 c5 c6 c7 c8 c9 g0
    go_wp2_with fail
    go_ret2
    have s2 := HS2.out.on (Below.refl w2.heap.size w2).drew
    have s3 : LinkAt (fun k => M k ∧ k ≠ w.heap.size) w3 L G I v3 vw { m with o := m.o.ack f.got.toNat } := s2.outs (hch3.mono (fun i e => .inl e)) ho3 rfl rfl rfl rfl rfl
    refine ⟨rfl, v3, vw, s3.more (fun k _ h => h.1), (Chg.of_below HB2.out.drew).trans hch3 (fun i _ e => .inr (.inr (.inl (.inl e)))), fun k hk => .inl ?_⟩
    rcases hk with h | h | h | h
    · exact .inl h
    · exact .inr (.inl h)
    · rcases h with h | h
      · exact .inr (.inr (.inl (.inl h)))
      · rcases hcut3 with e | e
        · exact .inr (.inr (.inl (.inr (by rw [h, e]))))
        · rw [e] at h; cases h
    · exact .inr (.inr (.inr h))
set_option maxRecDepth 8000 in
set_option maxHeartbeats 3200000 in
/-- All else is the row in's. -/
theorem ltake_row (es : Er → Addr) (M : Nat → Prop) (w : World) (L G I : Nat) (v vw : Value) (m : Lk) (f : Fr) (A : Option Addr) (c : Nat) (hE : REnv w es) (s : LinkAt M w L G I v vw m) (hf : m.fine) (hl : f.lens) (hA : RdC (· < w.heap.size) w A (bvs f.bytes)) (hup : m.up = true) (hk : f.kind ≠ 6) (hM : ∀ k, w.heap.size ≤ k → M k) :
    Calls Tryd.prog 38 #[.pointer (some ⟨L, 0, none⟩), frV f A c] w (fun e w' => e = .returned (.tuple #[.bool (takeB (takeR m.got f)), takeE es (takeR m.got f)]) ∧ LinkT M w L G I v vw { m with got := gotR m.got f } w') := by
  obtain ⟨w1, hw1, hb1, hs1, hf1⟩ := box_world w f A c
  have s1 : LinkAt (fun k => M k ∧ k ≠ w.heap.size) w1 L G I v vw m := (s.more (M' := fun k => M k ∧ k ≠ w.heap.size) (fun k hk h => ⟨h, by omega⟩)).on hb1
  have g3 := s1.c3
  rw [hup] at g3
  have g0 := s1.c1
  have hs1d := s1.on (Below.refl w1.heap.size w1).drew
  have htk := rtake_any es w1.drew I m.got f A c (hE.step hb1.drew) hs1d.inn hf.got hl (hA.step hb1.drew)
  have HTk := Lib.hid htk
  have hke : (f.kind == 6) = false := by rw [beq_eq_false_iff_ne]; exact hk
  have HS1 := Lib.hid s1
  have HS1d := Lib.hid hs1d
  have HB1 := Lib.hid hb1
  have HW1 := Lib.hid hw1.symm
  obtain ⟨c0, c1, c2, c3, c4, c5, c6, c7, c8, c9⟩ := hf1
  have hlt1 : w.heap.size < w1.heap.size := by omega
  clear hE hb1 hw1 s s1 hf hl hA hup hs1 hM htk hk hs1d
  unfold frV at HTk
  unfold frV
  simp only [frCs] at HW1
  go_enter Tryd.func38, Tryd.ntmps38
  go_wp2_with (rw [HW1.out])
  apply cutH (F := fun w3 => ∃ w2, Below w1.drew.heap.size w1.drew w2 ∧ w3 = w2.setCell ⟨I, 0, none⟩ (.int .i64 (gotR m.got f : Nat)))
  · intro hrest
    have HRest := Lib.hid hrest
    clear hrest
    go_region_law (go_simp; refine HTk.out.mono ?_; rintro e w3 ⟨rfl, w2, hb2, hw3⟩)
    all_goals exact HRest.out _ ⟨w2, hb2, rfl⟩
  · rintro w3 ⟨w2, hb2, rfl⟩
    clear c0 c1 c2 c3 c4 c5 c6 c7 c8 c9 g0
    go_wp2_with fail
    go_ret2
    have s2 := HS1d.out.on hb2
    have hI : (w2.setCell ⟨I, 0, none⟩ (.int .i64 (gotR m.got f : Nat))).heap[I]? = _ := heap_setCell_same _ _ 0 _ _ _ s2.inn
    have hc : Chg (· = I) w2 (w2.setCell ⟨I, 0, none⟩ (.int .i64 (gotR m.got f : Nat))) := (Chg.refl _ w2).setCell _ rfl
    have s3 : LinkAt (fun k => M k ∧ k ≠ w.heap.size) (w2.setCell ⟨I, 0, none⟩ (.int .i64 (gotR m.got f : Nat))) L G I v vw { m with got := gotR m.got f } := s2.ins hc (hI.trans rfl) rfl rfl rfl rfl rfl
    exact ⟨rfl, v, vw, s3.more (fun k _ h => h.1), (Chg.of_below (below_on HB1.out.drew hb2)).trans hc (fun i _ e => .inr (.inl e)), fun k hk => .inl hk⟩
end Go.Proofs.YtipgimmgjdgdeaaDoor
